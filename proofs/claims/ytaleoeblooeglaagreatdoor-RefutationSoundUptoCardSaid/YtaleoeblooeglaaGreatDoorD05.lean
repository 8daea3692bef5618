/-
  RefutationSound: what a tree refutes has no solution, for any system and tree whose bulk is at most 1048576 (the tables laid); names shortened by a program (RfTa RfQ1 RfQ2 RfN RfN2 RfO RfO2 RfP2 RfQ3 RfX1 RfX2 RfX3 RfW3 RfTd2 RfCdSound)
-/
import Derived.Test.YtaleoeblooeglaaGreatDoorD04
set_option maxRecDepth 10000
set_option linter.unusedSimpArgs false
set_option linter.unusedVariables false
namespace Go.Proofs.YtaleoeblooeglaaGreatDoor
section
namespace Pur
open Go.RowKit
attribute [local go_sem] bI fa bR bu cS gf List.map aX aG get put tmpsOf dF iW gF iG conds ev cond_true cond_false Nat.beq Nat.ble Nat.add quiet dG cf cF pn List.append_eq List.nil_append List.cons_append dE cy cz cA cB cC cD fg eY dv jb dH calm quiet.isCallK cH List.getElem?_cons_zero List.getElem?_cons_succ bp b6 cellsOf List.all bC List.length_cons List.length_nil eP a6 List.drop List.take List.getD Option.getD_some qR qS qF qT qU qV eB gC eC eD setAt List.set Nat.reduceAdd Nat.reduceMul b9 bw refsOf bG bM scalar cd ef bL ca aN after freeze im gT aS dx dQ dt eH c6 c7 cj da db de dh di dj dk dm dn dp dq ck cp cu dw jc bytesOf bH cU aQ bD dS bA bT cI still bW ed dy dW bP eI List.isEmpty cv cw cx Int.reduceToNat Nat.mul_one Nat.reduceSub oM cV b7 dK cG look dL strip guarded fV eK eO cK dV cY hJ dc dd Bool.or_false Bool.or_true Bool.and_true Bool.and_false Nat.blt gg fx gq dD idxOf gU gV iX eV aN mI
section
open Rf
theorem IA:Tryz.prog.cellsOf 57=2:=by kernel_rfl
theorem IB:Tryz.prog.cellsOf 107=2:=by kernel_rfl
theorem H5:Tryz.prog.cellsOf 62=2:=by kernel_rfl
theorem IC:Tryz.prog.cellsOf 99=3:=by kernel_rfl
theorem IJ:Tryz.prog.cellsOf 36=4:=by kernel_rfl
theorem IK:Tryz.prog.cellsOf 31=1:=by kernel_rfl
theorem ID:Tryz.prog.cellsOf 32=1:=by kernel_rfl
theorem IL:Tryz.prog.cellsOf 33=1:=by kernel_rfl
theorem IM:Tryz.prog.cellsOf 34=1:=by kernel_rfl
theorem IN:Tryz.prog.cellsOf 60=1:=by kernel_rfl
theorem IP:Tryz.prog.cellsOf 49=1:=by kernel_rfl
theorem IQ {n B:Nat} {l:List PV} (h:Typed Tryz.prog B n 57 l):∃x,l=jM x∧True:=by
 obtain⟨hl,m,rfl,hf⟩:=jl h Tryz.underlying57;rw[IA]at hl;match l,hl with
 |[a,b],_ =>
  obtain⟨x,hx⟩:=oZ (piece hf 0 0 3 zA rfl);obtain⟨y,hy⟩:=oZ (piece hf 1 1 3 zA rfl);simp at hx hy;subst hx hy;exact⟨⟨x,y⟩,rfl,trivial⟩
theorem IS {n B:Nat} {l:List PV} (h:Typed Tryz.prog B n 107 l):∃x,l=kG x∧True:=by
 obtain⟨hl,m,rfl,hf⟩:=jl h Tryz.underlying107;rw[IB]at hl;match l,hl with
 |[a,b],_ =>
  obtain⟨x,hx⟩:=oZ (piece hf 0 0 3 zA rfl);obtain⟨y,hy⟩:=oZ (piece hf 1 1 3 zA rfl);simp at hx hy;subst hx hy;exact⟨⟨x,y⟩,rfl,trivial⟩
theorem IE {n B:Nat} {l:List PV} (h:Typed Tryz.prog B n 62 l):∃x,l=eZ x∧x.terms.length≤B:=by
 obtain⟨hl,m,rfl,hf⟩:=jl h Tryz.underlying62;rw[H5]at hl;match l,hl with
 |[a,b],_ =>
  obtain⟨x,hx,lx,-⟩:=iO (piece hf 0 0 60 IN rfl) Tryz.underlying60 IB kG (fun _=>True) (fun _ _=>rfl) fun m c _ hc=>IS hc
  obtain⟨y,hy⟩:=oZ (piece hf 1 1 3 zA rfl);simp at hx hy;subst hx hy;exact⟨⟨x,y⟩,rfl,lx⟩
theorem IT {n B:Nat} {l:List PV} (h:Typed Tryz.prog B n 99 l):∃x,l=eX x∧x.least.length≤B:=by
 obtain⟨hl,m,rfl,hf⟩:=jl h Tryz.underlying99;rw[IC]at hl;match l,hl with
 |[a,b,c],_ =>
  obtain⟨x,hx⟩:=oZ (piece hf 0 0 3 zA rfl);obtain⟨y,hy⟩:=oZ (piece hf 1 1 3 zA rfl);obtain⟨z,hz,lz,-⟩:=iO (piece hf 2 2 49 IP rfl) Tryz.underlying49 zA bS (fun _=>True) (fun _ _=>rfl) fun m c _ hc=>by
   obtain⟨x,hx⟩:=oZ hc;exact⟨x,hx,trivial⟩
  simp at hx hy hz;subst hx hy hz;exact⟨⟨x,y,z⟩,rfl,lz⟩
theorem IU {B:Nat} (hB:B≤1000000000) {p:PV} (h:pP Tryz.prog B 36 p):∃s,p= .agg [ae s.box,ax s.rows,aE s.graphs,aA s.cases]∧zO s:=by
 obtain⟨n,l,h',rfl⟩:=Cl h Tryz.underlying36;obtain⟨hl,m,rfl,hf⟩:=jl h' Tryz.underlying36;rw[IJ]at hl;match l,hl with
 |[a,b,c,d],_ =>
  obtain⟨x0,e0,l0,-⟩:=iO (piece hf 0 0 31 IK rfl) Tryz.underlying31 IA jM (fun _=>True) (fun _ _=>rfl) fun m c _ hc=>IQ hc
  obtain⟨x1,e1,l1,w1⟩:=iO (piece hf 1 1 32 ID rfl) Tryz.underlying32 H5 eZ (fun x=>x.terms.length≤B) (fun _ _=>rfl) fun m c _ hc=>IE hc
  obtain⟨x2,e2,l2,w2⟩:=iO (piece hf 2 2 33 IL rfl) Tryz.underlying33 IC eX (fun x=>x.least.length≤B) (fun _ _=>rfl) fun m c _ hc=>IT hc
  obtain⟨x3,e3,l3,w3⟩:=iO (piece hf 3 3 34 IM rfl) Tryz.underlying34 ID sC (fun x=>x.length≤B∧∀r∈x,r.terms.length≤B) (fun _ _=>rfl) fun m c _ hc=>by
   obtain⟨x,e,lx,wx⟩:=iO hc Tryz.underlying32 H5 eZ (fun x=>x.terms.length≤B) (fun _ _=>rfl) fun m c _ hc=>IE hc
   exact⟨x,e,lx,wx⟩
  simp at e0 e1 e2 e3;subst e0 e1 e2 e3;exact⟨⟨x0,x1,x2,x3⟩,rfl,by show x0.length≤_;omega,by show x1.length≤_;omega,by show x2.length≤_;omega,by show x3.length≤_;omega,fun x hx=>Nat.le_trans (w1 x hx) hB,fun x hx=>Nat.le_trans (w2 x hx) hB,fun x hx=>Nat.le_trans (w3 x hx).1 hB,fun x hx r hr=>Nat.le_trans ((w3 x hx).2 r hr) hB⟩
end
section
open Rf
def H6:ay:=(⟨_,by conv=>(lhs;reduce;try simp only[eA,Int.cast_ofNat_Int,Int.reduceNegSucc,UInt8.reduceOfNat])⟩:{x // codeOf Tryz.prog 90 (fun _=>false)=some x}).1
theorem H7:bK Tryz.prog 90 (fun _=>false)=some (H6,[.t 6],15,true):=by kernel_rfl
def c91:ay:=(⟨_,by conv=>(lhs;reduce;try simp only[eA,Int.cast_ofNat_Int,Int.reduceNegSucc,UInt8.reduceOfNat])⟩:{x // codeOf Tryz.prog 91 (fun _=>false)=some x}).1
theorem H8:bK Tryz.prog 91 (fun _=>false)=some (c91,[.t 4],46,true):=by kernel_rfl
def EK:ay:=(⟨_,by conv=>(lhs;reduce;try simp only[eA,Int.cast_ofNat_Int,Int.reduceNegSucc,UInt8.reduceOfNat])⟩:{x // codeOf Tryz.prog 60 (fun _=>false)=some x}).1
theorem He:bK Tryz.prog 60 (fun _=>false)=some (EK,[.t 4],46,true):=by kernel_rfl
def Hf:ay:=(⟨_,by conv=>(lhs;reduce;try simp only[eA,Int.cast_ofNat_Int,Int.reduceNegSucc,UInt8.reduceOfNat])⟩:{x // codeOf Tryz.prog 61 (fun _=>false)=some x}).1
theorem H9:bK Tryz.prog 61 (fun _=>false)=some (Hf,[.t 2],21,true):=by kernel_rfl
theorem pj (n lo hi:Int):ah ctx 90 [.int .i64 n,.int .i64 lo,.int .i64 hi] (.bool (aK n lo hi)):=by
 refine ar (C:=ctx) (Fn.of H7 rfl) rfl ?_;unfold H6;repeat' (first
  |((with_reducible first|show aH _|show aP _);simp[vb]<;>omega)
  |exact(rfl:some _=_)
  |(
   fail_if_success refine a7 ?_
   refine aV ?_;repeat1' dsimp only[H6,go_sem]
   first
   |refine a8 ?_ ?_ rfl ?_
   |apply ba
   |apply bc
   |(refine bf (fun hc=>?_) fun hc=>?_<;>first|(cases hc;done)|(exfalso;simp at hc<;>omega)|(try simp only[bn]at hc;try contradiction))
   |skip))
 rw[lq];rfl
set_option maxHeartbeats 4000000 in
theorem Bq (n : Int) (r : Rw) (hr : r.terms.length ≤ 1000000000) : ah ctx 91 [.agg [au r.terms, .int .i64 r.bound], .int .i64 n] (.bool (gD n r)) := by
  obtain ⟨ts, bd⟩ := r
  unfold gD
  simp only at hr ⊢
  generalize hq : eU n (-1) ts = q
  have f1 := jn ts
  refine ar (C := ctx) (Fn.of H8 rfl) rfl ?_
  unfold c91
  repeat' (first
    | ((with_reducible first | show aH _ | show aP _); simp [vb] <;> omega)
    | exact (rfl : some _ = _)
    | (
      fail_if_success refine a7 ?_
      refine aV ?_
      repeat1' dsimp only [c91, au, go_sem]
      first
      | refine a8 ?_ ?_ rfl ?_
      | apply ba
      | apply bc
      | (refine bf (fun hc => ?_) fun hc => ?_ <;> first | (cases hc; done) | (exfalso; simp at hc <;> omega) | (try simp only [bn] at hc; try contradiction))
      | skip))
  refine dY (σ := Nat × Int) (fun s => s.1 ≤ ts.length ∧ eU n s.2 (ts.drop s.1) = q) (fun s => [(1, .pv (.int .i64 n)), (2, .ptr 0 0 0), (5, .pv (.int .i64 s.2)), (6, .pv (.int .i64 s.1))]) (fun _ => [⟨[.pv (au ts), .pv (.int .i64 bd)], 0, 2, 62, false⟩]) (fun s => ts.length - s.1) (0, -1) ⟨Nat.zero_le _, hq⟩ (by (repeat' (first | exact trivial | refine And.intro (by first | rfl | (simp [get, Nat.beq]; done) | (simp [get, Nat.beq]; omega) | (dsimp only [get]; congr 1 <;> first | rfl | omega | (simp; done) | (simp; omega))) ?_))) ⟨[], rfl⟩ (fun _ _ => ⟨Nat.zero_le _, rfl, rfl⟩) fun s hP => ?_
  obtain ⟨k, last⟩ := s
  obtain ⟨p1, p2⟩ := hP
  simp only at p1 p2
  by_cases hlt : k < ts.length
  · have e := dC kT ts k zm hlt
    rw [fM ts k zm hlt, eU] at p2
    generalize ts.getD k zm = x at *
    have hin := pj x.fac (-1000) 1000
    generalize hq2 : eU n x.cell (ts.drop (k + 1)) = q2 at *
    generalize aK x.fac (-1000) 1000 = qi at *
    repeat' (first
      | ((with_reducible show aH _); first | exact True.intro | (simp only [vb, lb, e, f1, hlt, kG, hin]; and_intros <;> first | omega | (simp <;> omega)))
      | ((with_reducible show aP _); first | exact True.intro | ((try dsimp only [go_sem]); (simp [vb, e, f1, hlt, kG, hin] <;> omega)))
      | exact (rfl : some _ = _)
      | (
        fail_if_success refine a7 ?_
        refine eW [(90, fun _ => some (.bool qi))] [(19, { val := some (.pv (.agg [.int .i64 x.cell, .int .i64 x.fac])) })] ?_
        repeat1' dsimp only [c91, au, go_sem]
        first
        | refine a8 ?_ ?_ rfl ?_
        | apply ba
        | apply bc
        | (refine bf (fun hc => ?_) fun hc => ?_ <;> first | (cases hc; done) | (exfalso; (simp at hc <;> omega)) | (try simp only [bn] at hc; try contradiction))
        | skip))
    all_goals first
      | (rw [← p2, show (decide (last < x.cell) && decide (x.cell < n) && decide (x.fac ≠ 0) && qi) = false from by
          rw [Bool.eq_false_iff]
          simp only [ne_eq, Bool.and_eq_true, decide_eq_true_eq]
          rintro ⟨⟨⟨a1, a2⟩, a3⟩, a4⟩
          subst a4
          simp at hc
          omega]; rfl)
      | (
        refine ⟨(k + 1, x.cell), by show ts.length - (k + 1) < ts.length - k; omega, ⟨by show k + 1 ≤ _; omega, ?_⟩, by (repeat' (first | exact trivial | refine And.intro (by first | rfl | (simp [get, Nat.beq]; done) | (simp [get, Nat.beq]; omega) | (dsimp only [get]; congr 1 <;> first | rfl | omega | (simp; done) | (simp; omega))) ?_)), _, rfl⟩
        show eU n x.cell (ts.drop (k + 1)) = q
        obtain ⟨⟨⟨a1, a2⟩, a3⟩, a4⟩ := hc
        rw [hq2, ← p2, show (decide (last < x.cell) && decide (x.cell < n) && decide (x.fac ≠ 0) && qi) = true from by
         simp only [ne_eq, Bool.and_eq_true, decide_eq_true_eq]
         exact ⟨⟨⟨by omega, by omega⟩, a3⟩, a4⟩, Bool.true_and])
  · obtain rfl : k = ts.length := by omega
    rw [List.drop_length, eU] at p2
    subst p2
    have hin := pj bd (-1000000000) 1000000000
    generalize aK bd (-1000000000) 1000000000 = qi at *
    repeat' (first
      | ((with_reducible show aH _); first | exact True.intro | (simp only [vb, lb, hlt, hin]; and_intros <;> first | omega | (simp <;> omega)))
      | ((with_reducible show aP _); first | exact True.intro | ((try dsimp only [go_sem]); (simp [vb, hlt, hin] <;> omega)))
      | exact (rfl : some _ = _)
      | (
        fail_if_success refine a7 ?_
        refine iF [(90, fun _ => some (.bool qi))] ?_
        repeat1' dsimp only [c91, au, go_sem]
        first
        | refine a8 ?_ ?_ rfl ?_
        | apply ba
        | apply bc
        | (refine bf (fun hc => ?_) fun hc => ?_ <;> first | (cases hc; done) | (exfalso; (simp at hc <;> omega)) | (try simp only [bn] at hc; try contradiction))
        | skip))
set_option maxHeartbeats 4000000 in
theorem k9 (b:List Rg) (l:List Rw) (hb:b.length≤1000000000) (hl:l.length≤1000000000) (ht:∀r∈l,r.terms.length≤1000000000):ah ctx 60 [ae b,ax l] (.bool (fQ b l)):=by
 have f1:=du b;have f2:=j7 l;unfold fQ eh;by_cases h0:b.length≤128
 ·rw[decide_eq_true h0,Bool.and_true];refine ar (C:=ctx) (Fn.of He rfl) rfl ?_;unfold EK;repeat' (first
   |((with_reducible first|show aH _|show aP _);simp[vb,h0]<;>omega)
   |exact(rfl:some _=_)
   |(
    fail_if_success refine a7 ?_
    refine aV ?_;repeat1' dsimp only[EK,ae,ax,go_sem]
    first
    |refine a8 ?_ ?_ rfl ?_
    |apply ba
    |apply bc
    |(refine bf (fun hc=>?_) fun hc=>?_<;>first|(cases hc;done)|(exfalso;simp[h0]at hc<;>omega)|(try simp only[bn]at hc;try contradiction))
    |skip))
  refine bF b.length (fun k=>(b.take k).all mn=true) (fun k=>[(0,.pv (ae b)),(1,.pv (ax l)),(5,.pv (.int .i64 k))]) (fun _=>[]) rfl (by (repeat' (first|exact trivial|refine And.intro (by first|rfl|(simp[get,Nat.beq];done)|(simp[get,Nat.beq];omega)|(dsimp only[get];congr 1<;>first|rfl|omega|(simp;done)|(simp;omega))) ?_))) ⟨[],rfl⟩ (fun _=>⟨Nat.zero_le _,rfl,rfl⟩) fun k hk hP=>?_
  by_cases hlt:k<b.length
  ·have e1:=oo b k hlt;have e2:(b.flatMap jM)[k*2+1]?.getD default= .int .i64 (b.getD k zr).hi:=by rw[bZ iS b k zr 1 hlt (by omega)];rfl
   have i1:=ew mn b k zr hlt;have i2:=l5 mn b k zr hlt;rw[i1,hP,Bool.true_and];clear i1;unfold mn at i2 ⊢;generalize b.getD k zr=x at *;have h1:=pj x.lo (-1000000) 1000000;have h2:=pj x.hi (-1000000) 1000000;generalize aK x.lo (-1000000) 1000000=q1 at *;generalize aK x.hi (-1000000) 1000000=q2 at *;repeat' (first
    |((with_reducible show aH _);first|exact True.intro|(simp only[vb,lb,e1,e2,f1,hlt,h1,h2];and_intros<;>first|omega|(simp<;>omega)))
    |((with_reducible show aP _);first|exact True.intro|((try dsimp only[go_sem]);(simp only[vb,and_true,true_implies];(repeat' (first|(with_reducible assumption)|(with_reducible apply And.intro)|intro _|((fail_if_success (with_reducible show(_:Int)≤_));assumption)))<;>first|omega|(simp only[ab,e1,e2,f1,hlt,h1,h2];done)|(simp_all;done))))
    |exact(rfl:some _=_)
    |(
     fail_if_success refine a7 ?_
     refine bJ [(20,{val:=some (.pv (.int .i64 x.lo))}),(21,{val:=some (.pv (.bool q1))}),(28,{val:=some (.pv (.int .i64 x.hi))}),(29,{val:=some (.pv (.bool q2))})] ?_;repeat1' dsimp only[EK,ae,ax,go_sem]
     first
     |refine a8 ?_ ?_ rfl ?_
     |apply ba
     |apply bc
     |(refine bf (fun hc=>?_) fun hc=>?_<;>first|(cases hc;done)|(exfalso;(simp at hc<;>omega))|(try simp only[bn]at hc;try contradiction))
     |skip))
   ·rw[i2 (by rcases hc with h|h<;>rw[h]<;>simp)];rfl
   ·exact⟨hlt,by rw[hc.1,hc.2];rfl,by (repeat' (first|exact trivial|refine And.intro (by first|rfl|(simp[get,Nat.beq];done)|(simp[get,Nat.beq];omega)|(dsimp only[get];congr 1<;>first|rfl|omega|(simp;done)|(simp;omega))) ?_)),_,rfl⟩
  ·obtain rfl:k=b.length:=by omega
   rw[List.take_length]at hP;rw[hP,Bool.true_and];repeat' (first
    |((with_reducible show aH _);exact True.intro)
    |((with_reducible show aP _);exact True.intro)
    |exact(rfl:some _=_)
    |(
     fail_if_success refine a7 ?_
     refine aV ?_;repeat1' dsimp only[EK,ae,ax,go_sem]
     first
     |refine a8 ?_ ?_ rfl ?_
     |apply ba
     |apply bc
     |(refine bf (fun hc=>?_) fun hc=>?_<;>first|(cases hc;done)|(exfalso;(simp at hc<;>omega))|(try simp only[bn]at hc;try contradiction))
     |skip))
   refine bF l.length (fun k=>(l.take k).all (gD b.length)=true) (fun k=>[(0,.pv (ae b)),(1,.pv (ax l)),(6,.pv (.int .i64 k))]) (fun _=>[]) rfl (by (repeat' (first|exact trivial|refine And.intro (by first|rfl|(simp[get,Nat.beq];done)|(simp[get,Nat.beq];omega)|(dsimp only[get];congr 1<;>first|rfl|omega|(simp;done)|(simp;omega))) ?_))) ⟨[],rfl⟩ (fun _=>⟨Nat.zero_le _,rfl,rfl⟩) fun k hk hP=>?_
   by_cases hlt:k<l.length
   ·have e:=dC j6 l k zw hlt;have i1:=ew (gD b.length) l k zw hlt;have i2:=l5 (gD b.length) l k zw hlt;have hx:=Bq b.length (l.getD k zw) (ht _ (aT hlt));rw[i1,hP,Bool.true_and];clear i1;generalize l.getD k zw=x at *;generalize gD b.length x=qx at *;unfold au at hx;repeat' (first
     |((with_reducible show aH _);first|exact True.intro|(simp only[vb,lb,e,f2,hlt,hx,eZ,au];and_intros<;>first|omega|(simp<;>omega)))
     |((with_reducible show aP _);first|exact True.intro|((try dsimp only[go_sem]);(simp[vb,e,f2,hlt,hx,eZ,au]<;>omega)))
     |exact(rfl:some _=_)
     |(
      fail_if_success refine a7 ?_
      refine eW [(91,fun _=>some (.bool qx))] [(41,{val:=some (.pv (.agg [.sl x.terms.length (x.terms.flatMap kG),.int .i64 x.bound]))})] ?_;repeat1' dsimp only[EK,ae,ax,go_sem]
      first
      |refine a8 ?_ ?_ rfl ?_
      |apply ba
      |apply bc
      |(refine bf (fun hc=>?_) fun hc=>?_<;>first|(cases hc;done)|(exfalso;(simp at hc<;>omega))|(try simp only[bn]at hc;try contradiction))
      |skip))
    ·rw[i2 hc]
    ·exact⟨hlt,hc,by (repeat' (first|exact trivial|refine And.intro (by first|rfl|(simp[get,Nat.beq];done)|(simp[get,Nat.beq];omega)|(dsimp only[get];congr 1<;>first|rfl|omega|(simp;done)|(simp;omega))) ?_)),_,rfl⟩
   ·obtain rfl:k=l.length:=by omega
    rw[List.take_length]at hP;repeat' (first
     |((with_reducible show aH _);exact True.intro)
     |((with_reducible show aP _);exact True.intro)
     |exact(rfl:some _=_)
     |(
      fail_if_success refine a7 ?_
      refine aV ?_;repeat1' dsimp only[EK,ae,ax,go_sem]
      first
      |refine a8 ?_ ?_ rfl ?_
      |apply ba
      |apply bc
      |(refine bf (fun hc=>?_) fun hc=>?_<;>first|(cases hc;done)|(exfalso;(simp at hc<;>omega))|(try simp only[bn]at hc;try contradiction))
      |skip))
    rw[hP]
 ·rw[decide_eq_false h0];refine ar (C:=ctx) (Fn.of He rfl) rfl ?_;unfold EK;repeat' (first
   |((with_reducible first|show aH _|show aP _);simp[vb,h0]<;>omega)
   |exact(rfl:some _=_)
   |(
    fail_if_success refine a7 ?_
    refine aV ?_;repeat1' dsimp only[EK,ae,ax,go_sem]
    first
    |refine a8 ?_ ?_ rfl ?_
    |apply ba
    |apply bc
    |(refine bf (fun hc=>?_) fun hc=>?_<;>first|(cases hc;done)|(exfalso;simp[h0]at hc<;>omega)|(try simp only[bn]at hc;try contradiction))
    |skip))
  simp
theorem qz (b:List Rg) (hb:b.length≤1000000000):ah ctx 61 [ae b] (.bool (cX b)):=by
 have f1:=du b;unfold cX;refine ar (C:=ctx) (Fn.of H9 rfl) rfl ?_;unfold Hf;repeat' (first
  |((with_reducible first|show aH _|show aP _);simp[vb]<;>omega)
  |exact(rfl:some _=_)
  |(
   fail_if_success refine a7 ?_
   refine aV ?_;repeat1' dsimp only[Hf,ae,go_sem]
   first
   |refine a8 ?_ ?_ rfl ?_
   |apply ba
   |apply bc
   |(refine bf (fun hc=>?_) fun hc=>?_<;>first|(cases hc;done)|(exfalso;simp at hc<;>omega)|(try simp only[bn]at hc;try contradiction))
   |skip))
 refine bF b.length (fun k=>(b.take k).any fc=false) (fun k=>[(0,.pv (ae b)),(3,.pv (.int .i64 k))]) (fun _=>[]) rfl (by (repeat' (first|exact trivial|refine And.intro (by first|rfl|(simp[get,Nat.beq];done)|(simp[get,Nat.beq];omega)|(dsimp only[get];congr 1<;>first|rfl|omega|(simp;done)|(simp;omega))) ?_))) ⟨[],rfl⟩ (fun _=>⟨Nat.zero_le _,rfl,rfl⟩) fun k hk hP=>?_
 by_cases hlt:k<b.length
 ·have e1:=oo b k hlt;have e2:(b.flatMap jM)[k*2+1]?.getD default= .int .i64 (b.getD k zr).hi:=by rw[bZ iS b k zr 1 hlt (by omega)];rfl
  have hm:=aT (d:=zr) hlt;have i1:=bz b k zr hlt;generalize b.getD k zr=x at *;repeat' (first
   |((with_reducible show aH _);first|exact True.intro|(simp only[vb,lb,e1,e2,f1,hlt];and_intros<;>first|omega|(simp<;>omega)))
   |((with_reducible show aP _);first|exact True.intro|((try dsimp only[go_sem]);(simp only[vb,and_true,true_implies];(repeat' (first|(with_reducible assumption)|(with_reducible apply And.intro)|intro _|((fail_if_success (with_reducible show(_:Int)≤_));assumption)))<;>(simp only[ab,e1,e2,f1,hlt];done))))
   |exact(rfl:some _=_)
   |(
    fail_if_success refine a7 ?_
    refine bJ [(14,{val:=some (.pv (.int .i64 x.lo))}),(19,{val:=some (.pv (.int .i64 x.hi))})] ?_;repeat1' dsimp only[Hf,ae,go_sem]
    first
    |refine a8 ?_ ?_ rfl ?_
    |apply ba
    |apply bc
    |(refine bf (fun hc=>?_) fun hc=>?_<;>first|(cases hc;done)|(exfalso;(simp at hc<;>omega))|(try simp only[bn]at hc;try contradiction))
    |skip))
  ·rw[List.any_eq_true.mpr ⟨x,hm,by simpa [fc]using hc⟩]
  ·exact⟨hlt,by rw[i1,List.any_append,hP];simpa [fc]using hc,by (repeat' (first|exact trivial|refine And.intro (by first|rfl|(simp[get,Nat.beq];done)|(simp[get,Nat.beq];omega)|(dsimp only[get];congr 1<;>first|rfl|omega|(simp;done)|(simp;omega))) ?_)),_,rfl⟩
 ·obtain rfl:k=b.length:=by omega
  rw[List.take_length]at hP;repeat' (first
   |((with_reducible show aH _);exact True.intro)
   |((with_reducible show aP _);exact True.intro)
   |exact(rfl:some _=_)
   |(
    fail_if_success refine a7 ?_
    refine aV ?_;repeat1' dsimp only[Hf,ae,go_sem]
    first
    |refine a8 ?_ ?_ rfl ?_
    |apply ba
    |apply bc
    |(refine bf (fun hc=>?_) fun hc=>?_<;>first|(cases hc;done)|(exfalso;(simp at hc<;>omega))|(try simp only[bn]at hc;try contradiction))
    |skip))
  rw[hP]
end
section
open Rf
def Bv:ay:=(⟨_,by conv=>(lhs;reduce;try simp only[eA,Int.cast_ofNat_Int,Int.reduceNegSucc,UInt8.reduceOfNat])⟩:{x // codeOf Tryz.prog 30 (fun _=>false)=some x}).1
theorem Ia:bK Tryz.prog 30 (fun _=>false)=some (Bv,[.t 2],132,true):=by kernel_rfl
def c70:ay:=(⟨_,by conv=>(lhs;reduce;try simp only[eA,Int.cast_ofNat_Int,Int.reduceNegSucc,UInt8.reduceOfNat])⟩:{x // codeOf Tryz.prog 70 (fun _=>false)=some x}).1
theorem Gq:bK Tryz.prog 70 (fun _=>false)=some (c70,[.t 2],34,true):=by kernel_rfl
set_option maxHeartbeats 8000000 in
theorem fO (s:Sy) (hs:zO s):ah ctx 30 [.agg [ae s.box,ax s.rows,aE s.graphs,aA s.cases]] (.bool (gJ s)):=by
 have h1:=k9 s.box s.rows hs.b hs.r hs.rt;have h2:=qz s.box hs.b;have hcv:=fun l hl=>k9 s.box l hs.b (hs.cl l hl) (hs.ct l hl)
 have hgl:=hs.gl;have f1:=ra s.graphs;have f2:=kU s.cases;have hsg:=hs.g;have hsc:=hs.c;have hsb:=hs.b;have hsr:=hs.r;have e2:gJ s=(decide (s.rows.length≤1024)&&decide (s.graphs.length≤64)&&decide (s.cases.length≤1024)&&fQ s.box s.rows&& !cX s.box&&s.cases.all (gy s.box)&&s.graphs.all (bX s.box.length)):=by
  rw[gJ];cases fQ s.box s.rows<;>cases cX s.box<;>cases decide (s.rows.length≤1024)<;>cases decide (s.graphs.length≤64)<;>cases decide (s.cases.length≤1024)<;>cases s.cases.all (gy s.box)<;>cases s.graphs.all (bX s.box.length)<;>rfl
 rw[e2];clear e2;obtain⟨b,rs,gs,cs⟩:=s;simp only at *;clear hs;generalize cX b=q2 at *;generalize fQ b rs=q1 at *;unfold ae at h1 h2 hcv;unfold ax at h1 hcv;refine ar (C:=ctx) (Fn.of Ia rfl) rfl ?_;unfold Bv;repeat' (first
  |((with_reducible show aH _);first|exact True.intro|(simp only[vb,lb,h1,h2];and_intros<;>first|omega|(simp<;>omega)))
  |((with_reducible show aP _);first|exact True.intro|((try dsimp only[go_sem]);(simp[vb,h1,h2]<;>omega)))
  |exact(rfl:some _=_)
  |(
   fail_if_success refine a7 ?_
   refine iF [(60,fun _=>some (.bool q1)),(61,fun _=>some (.bool q2))] ?_;repeat1' dsimp only[Bv,ae,ax,aE,aA,go_sem]
   first
   |refine a8 ?_ ?_ rfl ?_
   |apply ba
   |apply bc
   |(refine bf (fun hc=>?_) fun hc=>?_<;>first|(cases hc;done)|(try simp only[bn]at hc;try contradiction))
   |skip))
 ·have hr:(decide (rs.length≤1024)&&decide (gs.length≤64)&&decide (cs.length≤1024)&&q1&& !q2)=false:=by
   rw[Bool.eq_false_iff];simp only[ne_eq,Bool.and_eq_true,decide_eq_true_eq,Bool.not_eq_true'];rintro⟨⟨⟨⟨a,b⟩,c⟩,d⟩,e⟩;subst d e;simp at hc;omega
  rw[hr];rfl
 ·have hr:(decide (rs.length≤1024)&&decide (gs.length≤64)&&decide (cs.length≤1024)&&q1&& !q2)=true:=by
   simp only[Bool.and_eq_true,decide_eq_true_eq,Bool.not_eq_true'];obtain⟨⟨⟨⟨a,b⟩,c⟩,d⟩,e⟩:=hc;exact⟨⟨⟨⟨by omega,by omega⟩,by omega⟩,d⟩,e⟩
  rw[hr,Bool.true_and];clear h1 h2 hc hr;refine bF cs.length (fun k=>(cs.take k).all (gy b)=true) (fun k=>[(1,.ptr 0 0 0),(3,.pv (.int .i64 k))]) (fun _=>[⟨[.pv (ae b),.pv (ax rs),.pv (aE gs),.pv (aA cs)],0,4,36,false⟩]) rfl (by (repeat' (first|exact trivial|refine And.intro (by first|rfl|(simp[get,Nat.beq];done)|(simp[get,Nat.beq];omega)|(dsimp only[get];congr 1<;>first|rfl|omega|(simp;done)|(simp;omega))) ?_))) ⟨_,rfl⟩ (fun _=>⟨Nat.zero_le _,rfl,rfl⟩) fun k hk hP=>?_
  by_cases hlt:k<cs.length
  ·have e:=ma cs k hlt;have i1:=ew (gy b) cs k [] hlt;have i2:=l5 (gy b) cs k [] hlt;have hx:=hcv _ (aT (d:=([]:List Rw)) hlt);rw[i1,hP,Bool.true_and];clear i1 hcv;unfold gy at i2 ⊢;generalize cs.getD k []=x at *;generalize fQ b x=qx at *;by_cases hl:x.length≤64
   ·have hl':¬64<(x.length:Int):=by omega
    rw[decide_eq_true hl,Bool.true_and]at i2 ⊢;repeat' (first
     |((with_reducible show aH _);first|exact True.intro|(simp only[vb,lb,e,f2,hlt,hl',hx];and_intros<;>first|omega|(simp<;>omega)))
     |((with_reducible show aP _);first|exact True.intro|((try dsimp only[go_sem]);(simp[vb,e,f2,hlt,hl',hx]<;>omega)))
     |exact(rfl:some _=_)
     |(
      fail_if_success refine a7 ?_
      refine eW [(60,fun _=>some (.bool qx))] [(47,{val:=some (.pv (.sl x.length (x.flatMap eZ)))}),(49,{val:=some (.pv (.bool false))}),(57,{val:=some (.pv (.sl x.length (x.flatMap eZ)))})] ?_;repeat1' dsimp only[Bv,ae,ax,aE,aA,go_sem]
      first
      |refine a8 ?_ ?_ rfl ?_
      |apply ba
      |apply bc
      |(refine bf (fun hc=>?_) fun hc=>?_<;>first|(cases hc;done)|(exfalso;(simp at hc<;>omega))|(try simp only[bn]at hc;try contradiction))
      |skip))
    ·rw[i2 hc];rfl
    ·exact⟨hlt,hc,by (repeat' (first|exact trivial|refine And.intro (by first|rfl|(simp[get,Nat.beq];done)|(simp[get,Nat.beq];omega)|(dsimp only[get];congr 1<;>first|rfl|omega|(simp;done)|(simp;omega))) ?_)),_,rfl⟩
   ·have hl':64<(x.length:Int):=by omega
    rw[decide_eq_false hl,Bool.false_and]at i2 ⊢;repeat' (first
     |((with_reducible show aH _);first|exact True.intro|(simp only[vb,lb,e,f2,hlt,hl',hx];and_intros<;>first|omega|(simp<;>omega)))
     |((with_reducible show aP _);first|exact True.intro|((try dsimp only[go_sem]);(simp[vb,e,f2,hlt,hl',hx]<;>omega)))
     |exact(rfl:some _=_)
     |(
      fail_if_success refine a7 ?_
      refine eW [(60,fun _=>some (.bool qx))] [(47,{val:=some (.pv (.sl x.length (x.flatMap eZ)))}),(49,{val:=some (.pv (.bool true))}),(57,{val:=some (.pv (.sl x.length (x.flatMap eZ)))})] ?_;repeat1' dsimp only[Bv,ae,ax,aE,aA,go_sem]
      first
      |refine a8 ?_ ?_ rfl ?_
      |apply ba
      |apply bc
      |(refine bf (fun hc=>?_) fun hc=>?_<;>first|(cases hc;done)|(exfalso;(simp at hc<;>omega))|(try simp only[bn]at hc;try contradiction))
      |skip))
    rw[i2 rfl];rfl
  ·obtain rfl:k=cs.length:=by omega
   rw[List.take_length]at hP;rw[hP,Bool.true_and];clear hcv hP;repeat' (first
    |((with_reducible show aH _);first|exact True.intro|(simp only[vb,lb,hlt];and_intros<;>first|omega|(simp<;>omega)))
    |((with_reducible show aP _);exact True.intro)
    |exact(rfl:some _=_)
    |(
     fail_if_success refine a7 ?_
     refine aV ?_;repeat1' dsimp only[Bv,ae,ax,aE,aA,go_sem]
     first
     |refine a8 ?_ ?_ rfl ?_
     |apply ba
     |apply bc
     |(refine bf (fun hc=>?_) fun hc=>?_<;>first|(cases hc;done)|(exfalso;(simp at hc<;>omega))|(try simp only[bn]at hc;try contradiction))
     |skip))
   refine bF gs.length (fun k=>(gs.take k).all (bX b.length)=true) (fun k=>[(1,.ptr 0 0 0),(4,.pv (.int .i64 k))]) (fun _=>[⟨[.pv (ae b),.pv (ax rs),.pv (aE gs),.pv (aA cs)],0,4,36,false⟩]) rfl (by (repeat' (first|exact trivial|refine And.intro (by first|rfl|(simp[get,Nat.beq];done)|(simp[get,Nat.beq];omega)|(dsimp only[get];congr 1<;>first|rfl|omega|(simp;done)|(simp;omega))) ?_))) ⟨_,rfl⟩ (fun _=>⟨Nat.zero_le _,rfl,rfl⟩) fun k hk hP=>?_
   by_cases hlt:k<gs.length
   ·have e:=dC nC gs k zg hlt;have i1:=ew (bX b.length) gs k zg hlt;have i2:=l5 (bX b.length) gs k zg hlt;have hle:=hgl _ (aT (d:=zg) hlt);rw[i1,hP,Bool.true_and];clear i1 hgl;generalize gs.getD k zg=x at *;obtain⟨fi,sz,le⟩:=x;unfold bX at i2 ⊢;simp only at i2 hle ⊢;have f3:=cJ le;have e':List.take 3 (List.drop (k*3) (gs.flatMap eX))=[.int .i64 fi,.int .i64 sz,.sl le.length (le.flatMap bS)]:=e;by_cases h:1≤sz∧sz≤6
    ·obtain⟨q1,q2⟩:=sW h.1 h.2;rw[show aK sz 1 6=true by simp[aK,h],Bool.true_and]at i2 ⊢;by_cases h2:0≤fi∧fi≤b.length-sz*sz∧(le.length:Int)=sz*sz
     ·rw[decide_eq_true h2.1,decide_eq_true h2.2.1,decide_eq_true h2.2.2,Bool.true_and,Bool.true_and,Bool.true_and]at i2 ⊢;repeat' (first
       |((with_reducible show aH _);first|exact True.intro|(simp only[vb,lb,e',f1,hlt,h,h2,q1,q2];and_intros<;>first|omega|(simp<;>omega)))
       |((with_reducible show aP _);first|exact True.intro|((try dsimp only[go_sem]);(simp[vb,e',f1,hlt,h,h2,q1,q2]<;>omega)))
       |exact(rfl:some _=_)
       |(
        fail_if_success refine a7 ?_
        refine bJ [(72,{val:=some (.pv (.agg [.int .i64 fi,.int .i64 sz,.sl le.length (le.flatMap bS)]))})] ?_;repeat1' dsimp only[Bv,ae,ax,aE,aA,go_sem]
        first
        |refine a8 ?_ ?_ rfl ?_
        |apply ba
        |apply bc
        |(refine bf (fun hc=>?_) fun hc=>?_<;>first|(cases hc;done)|(exfalso;(simp at hc<;>omega))|(try simp only[bn]at hc;try contradiction))
        |skip))
      refine bF le.length (fun j=>(le.take j).all gE=true) (fun j=>[(1,.ptr 0 0 0),(4,.pv (.int .i64 k)),(5,.ptr 1 0 0),(6,.pv (.int .i64 j))]) (fun _=>[⟨[.pv (ae b),.pv (ax rs),.pv (aE gs),.pv (aA cs)],0,4,36,false⟩,⟨[.pv (.int .i64 fi),.pv (.int .i64 sz),.pv (aa le)],0,3,99,false⟩]) rfl (by (repeat' (first|exact trivial|refine And.intro (by first|rfl|(simp[get,Nat.beq];done)|(simp[get,Nat.beq];omega)|(dsimp only[get];congr 1<;>first|rfl|omega|(simp;done)|(simp;omega))) ?_))) ⟨_,rfl⟩ (fun _=>⟨Nat.zero_le _,rfl,rfl⟩) fun j hj hP2=>?_
      by_cases hlj:j<le.length
      ·have e3:=iu (g:=bS) (fun _=>rfl) le j 0 default hlj;have i3:=ew gE le j 0 hlj;have i4:=l5 gE le j 0 hlj;rw[i3,hP2,Bool.true_and];clear i3;generalize le.getD j 0=y at *;repeat' (first
        |((with_reducible show aH _);first|exact True.intro|(simp only[vb,lb,e3,f3,hlj];and_intros<;>first|omega|(simp<;>omega)))
        |((with_reducible show aP _);first|exact True.intro|((try dsimp only[go_sem]);(simp only[vb,and_true,true_implies];(repeat' (first|(with_reducible assumption)|(with_reducible apply And.intro)|intro _|((fail_if_success (with_reducible show(_:Int)≤_));assumption)))<;>first|omega|(simp only[ab,e3,f3,hlj];done)|(simp_all;done))))
        |exact(rfl:some _=_)
        |(
         fail_if_success refine a7 ?_
         refine bJ [(122,{val:=some (.pv (.int .i64 y))}),(129,{val:=some (.pv (.int .i64 y))})] ?_;repeat1' dsimp only[Bv,ae,ax,aE,aA,aa,go_sem]
         first
         |refine a8 ?_ ?_ rfl ?_
         |apply ba
         |apply bc
         |(refine bf (fun hc=>?_) fun hc=>?_<;>first|(cases hc;done)|(exfalso;(simp at hc<;>omega))|(try simp only[bn]at hc;try contradiction))
         |skip))
       ·rw[i2 (i4 (by
         rw[Bool.eq_false_iff];simp only[gE,aK,ne_eq,Bool.and_eq_true,decide_eq_true_eq];omega))]
       ·exact⟨hlj,by simp only[gE,aK,Bool.and_eq_true,decide_eq_true_eq];omega,by (repeat' (first|exact trivial|refine And.intro (by first|rfl|(simp[get,Nat.beq];done)|(simp[get,Nat.beq];omega)|(dsimp only[get];congr 1<;>first|rfl|omega|(simp;done)|(simp;omega))) ?_)),_,rfl⟩
      ·obtain rfl:j=le.length:=by omega
       rw[List.take_length]at hP2;repeat' (first
        |((with_reducible show aH _);(simp only[vb,lb,hlj];and_intros<;>first|omega|(simp<;>omega)))
        |((with_reducible show aP _);exact True.intro)
        |exact(rfl:some _=_)
        |(
         fail_if_success refine a7 ?_
         refine aV ?_;repeat1' dsimp only[Bv,ae,ax,aE,aA,aa,go_sem]
         first
         |refine a8 ?_ ?_ rfl ?_
         |apply ba
         |apply bc
         |(refine bf (fun hc=>?_) fun hc=>?_<;>first|(cases hc;done)|(exfalso;(simp at hc<;>omega))|(try simp only[bn]at hc;try contradiction))
         |skip))
       exact⟨hlt,hP2,by (repeat' (first|exact trivial|refine And.intro (by first|rfl|(simp[get,Nat.beq];done)|(simp[get,Nat.beq];omega)|(dsimp only[get];congr 1<;>first|rfl|omega|(simp;done)|(simp;omega))) ?_)),_,rfl⟩
     ·have hr:(decide (0≤fi)&&decide (fi≤b.length-sz*sz)&&decide ((le.length:Int)=sz*sz))=false:=by
       rw[Bool.eq_false_iff];simp only[ne_eq,Bool.and_eq_true,decide_eq_true_eq];omega
      rw[hr,Bool.false_and]at i2 ⊢;repeat' (first
       |((with_reducible show aH _);first|exact True.intro|(simp only[vb,lb,e',f1,hlt,h,h2,q1,q2];and_intros<;>first|omega|(simp<;>omega)))
       |((with_reducible show aP _);first|exact True.intro|((try dsimp only[go_sem]);(simp[vb,e',f1,hlt,h,h2,q1,q2]<;>omega)))
       |exact(rfl:some _=_)
       |(
        fail_if_success refine a7 ?_
        refine bJ [(72,{val:=some (.pv (.agg [.int .i64 fi,.int .i64 sz,.sl le.length (le.flatMap bS)]))})] ?_;repeat1' dsimp only[Bv,ae,ax,aE,aA,go_sem]
        first
        |refine a8 ?_ ?_ rfl ?_
        |apply ba
        |apply bc
        |(refine bf (fun hc=>?_) fun hc=>?_<;>first|(cases hc;done)|(exfalso;(simp at hc<;>omega))|(try simp only[bn]at hc;try contradiction))
        |skip))
      all_goals rw[i2 rfl]
    ·rw[show aK sz 1 6=false by simp[aK];omega]at i2 ⊢;repeat' (first
      |((with_reducible show aH _);first|exact True.intro|(simp only[vb,lb,e',f1,hlt,h];and_intros<;>first|omega|(simp<;>omega)))
      |((with_reducible show aP _);first|exact True.intro|((try dsimp only[go_sem]);(simp[vb,e',f1,hlt,h]<;>omega)))
      |exact(rfl:some _=_)
      |(
       fail_if_success refine a7 ?_
       refine bJ [(72,{val:=some (.pv (.agg [.int .i64 fi,.int .i64 sz,.sl le.length (le.flatMap bS)]))})] ?_;repeat1' dsimp only[Bv,ae,ax,aE,aA,go_sem]
       first
       |refine a8 ?_ ?_ rfl ?_
       |apply ba
       |apply bc
       |(refine bf (fun hc=>?_) fun hc=>?_<;>first|(cases hc;done)|(exfalso;(simp at hc<;>omega))|(try simp only[bn]at hc;try contradiction))
       |skip))
     all_goals rw[i2 rfl]
   ·obtain rfl:k=gs.length:=by omega
    rw[List.take_length]at hP;rw[hP];repeat' (first
     |((with_reducible show aH _);first|exact True.intro|(simp only[vb,lb,hlt];and_intros<;>first|omega|(simp<;>omega)))
     |((with_reducible show aP _);exact True.intro)
     |exact(rfl:some _=_)
     |(
      fail_if_success refine a7 ?_
      refine aV ?_;repeat1' dsimp only[Bv,ae,ax,aE,aA,go_sem]
      first
      |refine a8 ?_ ?_ rfl ?_
      |apply ba
      |apply bc
      |(refine bf (fun hc=>?_) fun hc=>?_<;>first|(cases hc;done)|(exfalso;(simp at hc<;>omega))|(try simp only[bn]at hc;try contradiction))
      |skip))
def uu:List Rg→Int→Int
 |[],n=>n
 |r::l,n=>uu l (min (n*(r.hi-r.lo+1)) 1073741824)
def ri (b:List Rg):Int:=if eh b=true∧cX b=false then uu b 1 else 0
theorem nq (b:List Rg) (hb:b.length≤1000000000):ah ctx 60 [ae b,.nilsl] (.bool (eh b)):=by
 have h:=k9 b [] hb (by simp) (by simp);rw[show fQ b []=eh b by simp[fQ]]at h;refine ah.n8 1 ?_;have e:∀l:List PV,l.map (canon 0)=l:=fun l=>by rw[show canon 0=id from funext fun _=>by simp[canon]];simp
 simpa [canon,ae,ax,e]using h
set_option maxHeartbeats 4000000 in
theorem Br (b:List Rg) (hb:b.length≤1000000000):ah ctx 70 [ae b] (.int .i64 (ri b)):=by
 have h1:=nq b hb;have h2:=qz b hb;have f1:=du b;have hbx:=fun (h:eh b=true) k=>o8 (kC h k)
 have hem:cX b=false→∀k,k<b.length→(b.getD k zr).lo≤(b.getD k zr).hi:=fun h k hk=>by
  have:=List.any_eq_false.mp h _ (aT (d:=zr) hk);simpa [fc]using this
 unfold ri;unfold ae at h1 h2;generalize eh b=q1 at *;generalize cX b=q2 at *;by_cases hc:q1=true∧q2=false
 ·obtain⟨rfl,rfl⟩:=hc;rw[if_pos ⟨rfl,rfl⟩];generalize hr:uu b 1=r;refine ar (C:=ctx) (Fn.of Gq rfl) rfl ?_;unfold c70;repeat' (first
   |((with_reducible show aH _);exact True.intro)
   |((with_reducible show aP _);first|exact True.intro|((try dsimp only[go_sem]);(simp[vb,h1,h2]<;>omega)))
   |exact(rfl:some _=_)
   |(
    fail_if_success refine a7 ?_
    refine iF [(60,fun _=>some (.bool true)),(61,fun _=>some (.bool false))] ?_;repeat1' dsimp only[c70,ae,go_sem]
    first
    |refine a8 ?_ ?_ rfl ?_
    |apply ba
    |apply bc
    |(refine bf (fun hc=>?_) fun hc=>?_<;>first|(cases hc;done)|(try simp only[bn]at hc;try contradiction))
    |skip))
  refine dY (σ:=Nat×Int) (fun s=>s.1≤b.length∧uu (b.drop s.1) s.2=r∧0≤s.2∧s.2≤1073741824) (fun s=>[(0,.pv (ae b)),(3,.pv (.int .i64 s.2)),(4,.pv (.int .i64 s.1))]) (fun _=>[]) (fun s=>b.length-s.1) (0,1) ⟨Nat.zero_le _,hr,by decide,by decide⟩ (by (repeat' (first|exact trivial|refine And.intro (by first|rfl|(simp[get,Nat.beq];done)|(simp[get,Nat.beq];omega)|(dsimp only[get];congr 1<;>first|rfl|omega|(simp;done)|(simp;omega))) ?_))) ⟨[],rfl⟩ (fun _ _=>⟨Nat.zero_le _,rfl,rfl⟩) fun s hP=>?_
  obtain⟨k,n⟩:=s;obtain⟨p1,p2,p3,p4⟩:=hP;simp only at p1 p2 p3 p4;by_cases hlt:k<b.length
  ·have e1:=oo b k hlt;have e2:(b.flatMap jM)[k*2+1]?.getD default= .int .i64 (b.getD k zr).hi:=by rw[bZ iS b k zr 1 hlt (by omega)];rfl
   have g1:=hbx rfl k;have g2:=hem rfl k hlt;rw[fM b k zr hlt,uu]at p2;clear hbx hem;generalize b.getD k zr=x at *;obtain⟨d,hd⟩:∃d:Int,x.hi-x.lo+1=d:=⟨_,rfl⟩
   have hm:0≤n*d∧n*d≤1073741824*3000000:=⟨Int.mul_nonneg p3 (by omega),Int.mul_le_mul p4 (by omega) (by omega) (by omega)⟩
   rw[hd]at p2;repeat' (first
    |((with_reducible show aH _);first|exact True.intro|(simp only[vb,lb,e1,e2,f1,hlt,hd];and_intros<;>first|omega|(simp<;>omega)))
    |((with_reducible show aP _);first|exact True.intro|((try dsimp only[go_sem]);(simp only[vb,and_true,true_implies];(repeat' (first|(with_reducible assumption)|(with_reducible apply And.intro)|intro _|((fail_if_success (with_reducible show(_:Int)≤_));assumption)))<;>(simp only[ab,e1,e2,f1,hlt,hd];done))))
    |exact(rfl:some _=_)
    |(
     fail_if_success refine a7 ?_
     refine bJ [(23,{val:=some (.pv (.int .i64 x.hi))}),(28,{val:=some (.pv (.int .i64 x.lo))}),(30,{val:=some (.pv (.int .i64 d))})] ?_;repeat1' dsimp only[c70,ae,go_sem]
     first
     |refine a8 ?_ ?_ rfl ?_
     |apply ba
     |apply bc
     |(refine bf (fun hc=>?_) fun hc=>?_<;>first|(cases hc;done)|(exfalso;(simp at hc<;>omega))|(try simp only[bn]at hc;try contradiction))
     |skip))
   rw[pb];exact⟨(k+1,min (n*d) 1073741824),by show b.length-(k+1)<b.length-k;omega,⟨by show k+1≤_;omega,p2,by show 0≤min (n*d) 1073741824;omega,by show min (n*d) 1073741824≤_;omega⟩,by (repeat' (first|exact trivial|refine And.intro (by first|rfl|(simp[get,Nat.beq];done)|(simp[get,Nat.beq];omega)|(dsimp only[get];congr 1<;>first|rfl|omega|(simp;done)|(simp;omega))) ?_)),_,rfl⟩
  ·obtain rfl:k=b.length:=by omega
   rw[List.drop_length,uu]at p2;subst p2;repeat' (first
    |((with_reducible show aH _);exact True.intro)
    |((with_reducible show aP _);exact True.intro)
    |exact(rfl:some _=_)
    |(
     fail_if_success refine a7 ?_
     refine aV ?_;repeat1' dsimp only[c70,ae,go_sem]
     first
     |refine a8 ?_ ?_ rfl ?_
     |apply ba
     |apply bc
     |(refine bf (fun hc=>?_) fun hc=>?_<;>first|(cases hc;done)|(exfalso;(simp at hc<;>omega))|(try simp only[bn]at hc;try contradiction))
     |skip))
 ·rw[if_neg hc];cases q1 with
  |false =>
   refine ar (C:=ctx) (Fn.of Gq rfl) rfl ?_;unfold c70;repeat' (first
    |((with_reducible show aH _);exact True.intro)
    |((with_reducible show aP _);first|exact True.intro|((try dsimp only[go_sem]);(simp[vb,h1,h2]<;>omega)))
    |exact(rfl:some _=_)
    |(
     fail_if_success refine a7 ?_
     refine iF [(60,fun _=>some (.bool false)),(61,fun _=>some (.bool q2))] ?_;repeat1' dsimp only[c70,ae,go_sem]
     first
     |refine a8 ?_ ?_ rfl ?_
     |apply ba
     |apply bc
     |(refine bf (fun hc=>?_) fun hc=>?_<;>first|(cases hc;done)|(try simp only[bn]at hc;try contradiction))
     |skip))
  |true =>
   cases q2 with
   |false=>exact absurd ⟨rfl,rfl⟩ hc
   |true =>
    refine ar (C:=ctx) (Fn.of Gq rfl) rfl ?_;unfold c70;repeat' (first
     |((with_reducible show aH _);exact True.intro)
     |((with_reducible show aP _);first|exact True.intro|((try dsimp only[go_sem]);(simp[vb,h1,h2]<;>omega)))
     |exact(rfl:some _=_)
     |(
      fail_if_success refine a7 ?_
      refine iF [(60,fun _=>some (.bool true)),(61,fun _=>some (.bool true))] ?_;repeat1' dsimp only[c70,ae,go_sem]
      first
      |refine a8 ?_ ?_ rfl ?_
      |apply ba
      |apply bc
      |(refine bf (fun hc=>?_) fun hc=>?_<;>first|(cases hc;done)|(try simp only[bn]at hc;try contradiction))
      |skip))
end
section
open Rf
def bB (b:List Rg) (g:Nat):fw:=⟨(b.flatMap jM).map .pv,g,2,57,false⟩
def ep (s:Sy) (rows:List Rw) (bx:AV) (ch:Bool):List AV:=[.pv (ae s.box),.pv (ax s.rows),.pv (aE s.graphs),.pv (aA s.cases),.pv (ax rows),bx,.pv (.bool ch)]
theorem s4:∀(b:List Rg) (c:Nat) (lo hi:Int),c<b.length→(((b.flatMap jM).map AV.pv).set (c*2) (.pv (.int .i64 lo))).set (c*2+1) (.pv (.int .i64 hi))=((b.set c ⟨lo,hi⟩).flatMap jM).map AV.pv
 |[],c,_,_,h=>by simp at h
 |x::r,0,lo,hi,_=>rfl
 |x::r,c+1,lo,hi,h=>by
  have:=s4 r c lo hi (by simpa using h);rw[show(c+1)*2=c*2+1+1 by omega];simp only[List.flatMap_cons,jM,List.cons_append,List.nil_append,List.map_cons,List.set_cons_succ];rw[this]
theorem xu:∀(b:List Rg) (c:Nat) (hi:Int),c<b.length→((b.flatMap jM).map AV.pv).set (c*2+1) (.pv (.int .i64 hi))=((b.set c ⟨(b.getD c zr).lo,hi⟩).flatMap jM).map AV.pv
 |[],c,_,h=>by simp at h
 |x::r,0,hi,_=>rfl
 |x::r,c+1,hi,h=>by
  have:=xu r c hi (by simpa using h);rw[show(c+1)*2+1=c*2+1+1+1 by omega];simp only[List.flatMap_cons,jM,List.cons_append,List.nil_append,List.map_cons,List.set_cons_succ];rw[this];simp
theorem yQ (b:List Rg) (c:Nat) (h:c<b.length):((b.flatMap jM).map AV.pv)[c*2]?.getD .any= .pv (.int .i64 (b.getD c zr).lo):=by
 have:=bZ iS b c zr 0 h (by omega);rw[Nat.add_zero]at this;rw[List.getElem?_map,this];rfl
theorem yR (b:List Rg) (c:Nat) (h:c<b.length):((b.flatMap jM).map AV.pv)[c*2+1]?.getD .any= .pv (.int .i64 (b.getD c zr).hi):=by
 have:=bZ iS b c zr 1 h (by omega);rw[List.getElem?_map,this];rfl
theorem nL (b:List Rg) (c:Nat) (y:Rg) (h:c<b.length):(b.set c y).getD c zr=y:=by
 simp[List.getD,h]
theorem s5:∀l:List PV,a6 (l.map AV.pv)=some l
 |[]=>rfl
 |x::r=>by rw[List.map_cons,a6,s5 r]
theorem nr (b:List Rg) (g:Nat):(Nat.beq g g&&(0+b.length*2).ble ((b.flatMap jM).map AV.pv).length)=true∧a6 (((b.flatMap jM).map AV.pv).take (b.length*2))=some (b.flatMap jM):=by
 have f:=du b;refine⟨by simp[f],?_⟩;rw[List.take_of_length_le (by simp[f]),s5]
set_option maxHeartbeats 8000000 in
theorem yS (s:Sy) (rows:List Rw) (b:List Rg) (g:Nat) (ch:Bool) (x:bj) (hx:bY x=true) (hk:x.kind=1) (hs:∀q∈s.graphs,bX b.length q=true) (hg:s.graphs.length≤1000000000) (hb:b.length≤1000000000) :
  aJ ctx 78 [.agg (ep s rows (.ref 0 g 0 b.length) ch),.pv (gk x)] [bB b g] (.pv (.tup [.bool (ei s rows b x).2.1,.bool (ei s rows b x).2.2])) [bB (ei s rows b x).1 g]:=by
 simp only[bY,hk,aK,Bool.and_eq_true,decide_eq_true_eq,if_true]at hx;obtain⟨⟨-,x1,x2⟩,x3,x4⟩:=hx;obtain⟨i,hi⟩:∃i:Nat,x.index=i:=⟨x.index.toNat,by omega⟩
 obtain⟨c,hc⟩:∃c:Nat,x.cell=c:=⟨x.cell.toNat,by omega⟩
 obtain⟨kd,ix,cl⟩:=x;simp only at *;subst hk hi hc;unfold ei;simp only[if_true];have f1:=ra s.graphs;have f2:=du b;obtain⟨hth1,hth2⟩:=nr b g;by_cases h1:i<s.graphs.length
 ·have e1:=dC nC s.graphs i zg h1;have hgo:=hs _ (aT (d:=zg) h1);have hcl:=Bm s rows b ch (s.graphs.getD i zg);simp only[show(i:Int)<s.graphs.length from by omega,if_true,Int.toNat_natCast];generalize s.graphs.getD i zg=q at *;have hgo':=hgo;simp only[bX,aK,Bool.and_eq_true,decide_eq_true_eq]at hgo';obtain⟨⟨⟨⟨⟨g1,g2⟩,g3⟩,g4⟩,g5⟩,g6⟩:=hgo';have hsq:=sW g1 g2;by_cases h2:q.first≤c∧(c:Int)<q.first+q.least.length
  ·obtain⟨k,hk⟩:∃k:Nat,(c:Int)-q.first=k:=⟨((c:Int)-q.first).toNat,by omega⟩
   have hkl:k<q.least.length:=by omega
   have hcb:c<b.length:=by omega
   have hcl:=hcl k hgo hb hkl;simp only[h2,and_self,if_true,hk,Int.toNat_natCast];have e2:=iu (g:=bS) (fun _=>rfl) q.least k 0 default hkl;have hlb:gE (q.least.getD k 0)=true:=List.all_eq_true.mp g6 _ (aT hkl);simp only[gE,aK,Bool.and_eq_true,decide_eq_true_eq]at hlb;have hfc:q.first.toNat+k=c:=by omega
   unfold vh;simp only[hfc];have e3:=yR b c hcb;have e4:=yQ b c hcb;have e5:=fun h=>xu b c h hcb
   have e6:=nL b c;generalize hy:b.getD c zr=y at *;generalize q.least.getD k 0=lk at *;have f3:=cJ q.least;generalize kS q b k=cq at *;cases cq with
   |true =>
    simp only[if_true,ep,gk,aO,bB];refine bq (C:=ctx) (Fn.of sG rfl) rfl (by simp) rfl (by simp[aM,dA]) ?_;unfold p6;refine bJ [(26,{val:=some (.pv (.agg [.int .i64 q.first,.int .i64 q.size,.sl q.least.length (q.least.flatMap bS)]))}),(31,{val:=some (.pv (.int .i64 k))}),(33,{val:=some (.pv (.bool false))}),(39,{val:=some (.pv (.bool false))}),(44,{val:=some (.pv (.bool true)),args:=some [.agg (jL s rows b ch),.agg [.int .i64 q.first,.int .i64 q.size,aa q.least],.int .i64 k]})] ?_;dsimp only[aE,ae,ax,aA,aa,go_sem]
    try dsimp only[aE,ae,ax,aA,aa,go_sem]
    refine⟨(by first|exact True.intro|(simp only[vb,lb];omega)|(simp only[vb,lb,e1,f1,h1,f3,hk,hkl,eX,aa];and_intros<;>first|omega|(simp<;>omega))|(simp[vb,e1,f1,h1,f3,hk,hkl,eX,aa]<;>omega)),(by first|exact True.intro|((try dsimp only[go_sem]);first|(simp[vb,e1,f1,h1,f3,hk,hkl,eX,aa]<;>omega)|(simp only[vb,and_true,true_implies];(repeat' (first|(with_reducible assumption)|(with_reducible apply And.intro)|intro _|((fail_if_success (with_reducible show(_:Int)≤_));assumption)))<;>first|omega|rfl|(simp only[ab,e1,f1,h1,f3,hk,hkl,eX,aa];done)|(simp[Nat.mul_one,e1,f1,h1,f3,hk,hkl,eX,aa]<;>omega)|(simp_all;done)))),?_⟩
    refine bJ [(26,{val:=some (.pv (.agg [.int .i64 q.first,.int .i64 q.size,.sl q.least.length (q.least.flatMap bS)]))}),(31,{val:=some (.pv (.int .i64 k))}),(33,{val:=some (.pv (.bool false))}),(39,{val:=some (.pv (.bool false))}),(44,{val:=some (.pv (.bool true)),args:=some [.agg (jL s rows b ch),.agg [.int .i64 q.first,.int .i64 q.size,aa q.least],.int .i64 k]})] ?_;dsimp only[aE,ae,ax,aA,aa,go_sem];try dsimp only[aE,ae,ax,aA,aa,go_sem]
    refine⟨(by simp[vb,e1,f1,h1,f3,hk,hkl,eX,aa]<;>omega),(by simp[vb,e1,f1,h1,f3,hk,hkl,eX,aa]<;>omega),?_⟩;refine bJ [(26,{val:=some (.pv (.agg [.int .i64 q.first,.int .i64 q.size,.sl q.least.length (q.least.flatMap bS)]))}),(31,{val:=some (.pv (.int .i64 k))}),(33,{val:=some (.pv (.bool false))}),(39,{val:=some (.pv (.bool false))}),(44,{val:=some (.pv (.bool true)),args:=some [.agg (jL s rows b ch),.agg [.int .i64 q.first,.int .i64 q.size,aa q.least],.int .i64 k]})] ?_;dsimp only[aE,ae,ax,aA,aa,go_sem];refine⟨fun _=>?_,fun h=>by simp at h<;>omega⟩
    refine bJ [(26,{val:=some (.pv (.agg [.int .i64 q.first,.int .i64 q.size,.sl q.least.length (q.least.flatMap bS)]))}),(31,{val:=some (.pv (.int .i64 k))}),(33,{val:=some (.pv (.bool false))}),(39,{val:=some (.pv (.bool false))}),(44,{val:=some (.pv (.bool true)),args:=some [.agg (jL s rows b ch),.agg [.int .i64 q.first,.int .i64 q.size,aa q.least],.int .i64 k]})] ?_;dsimp only[aE,ae,ax,aA,aa,go_sem];try dsimp only[aE,ae,ax,aA,aa,go_sem]
    refine⟨(by first|exact True.intro|(simp only[vb,lb];omega)|(simp only[vb,lb,e1,f1,h1,f3,hk,hkl,eX,aa];and_intros<;>first|omega|(simp<;>omega))|(simp[vb,e1,f1,h1,f3,hk,hkl,eX,aa]<;>omega)),(by first|exact True.intro|((try dsimp only[go_sem]);first|(simp[vb,e1,f1,h1,f3,hk,hkl,eX,aa]<;>omega)|(simp only[vb,and_true,true_implies];(repeat' (first|(with_reducible assumption)|(with_reducible apply And.intro)|intro _|((fail_if_success (with_reducible show(_:Int)≤_));assumption)))<;>first|omega|rfl|(simp only[ab,e1,f1,h1,f3,hk,hkl,eX,aa];done)|(simp[Nat.mul_one,e1,f1,h1,f3,hk,hkl,eX,aa]<;>omega)|(simp_all;done)))),?_⟩
    refine bJ [(26,{val:=some (.pv (.agg [.int .i64 q.first,.int .i64 q.size,.sl q.least.length (q.least.flatMap bS)]))}),(31,{val:=some (.pv (.int .i64 k))}),(33,{val:=some (.pv (.bool false))}),(39,{val:=some (.pv (.bool false))}),(44,{val:=some (.pv (.bool true)),args:=some [.agg (jL s rows b ch),.agg [.int .i64 q.first,.int .i64 q.size,aa q.least],.int .i64 k]})] ?_;dsimp only[aE,ae,ax,aA,aa,go_sem];refine⟨fun h=>by simp at h<;>omega,fun _=>?_⟩
    refine bJ [(26,{val:=some (.pv (.agg [.int .i64 q.first,.int .i64 q.size,.sl q.least.length (q.least.flatMap bS)]))}),(31,{val:=some (.pv (.int .i64 k))}),(33,{val:=some (.pv (.bool false))}),(39,{val:=some (.pv (.bool false))}),(44,{val:=some (.pv (.bool true)),args:=some [.agg (jL s rows b ch),.agg [.int .i64 q.first,.int .i64 q.size,aa q.least],.int .i64 k]})] ?_;dsimp only[aE,ae,ax,aA,aa,go_sem]
    refine bJ [(26,{val:=some (.pv (.agg [.int .i64 q.first,.int .i64 q.size,.sl q.least.length (q.least.flatMap bS)]))}),(31,{val:=some (.pv (.int .i64 k))}),(33,{val:=some (.pv (.bool false))}),(39,{val:=some (.pv (.bool false))}),(44,{val:=some (.pv (.bool true)),args:=some [.agg (jL s rows b ch),.agg [.int .i64 q.first,.int .i64 q.size,aa q.least],.int .i64 k]})] ?_;dsimp only[aE,ae,ax,aA,aa,go_sem];try dsimp only[aE,ae,ax,aA,aa,go_sem]
    refine⟨(by first|exact True.intro|(simp only[vb,lb];omega)|(simp only[vb,lb,e1,f1,h1,f3,hk,hkl,eX,aa];and_intros<;>first|omega|(simp<;>omega))|(simp[vb,e1,f1,h1,f3,hk,hkl,eX,aa]<;>omega)),(by first|exact True.intro|((try dsimp only[go_sem]);first|(simp[vb,e1,f1,h1,f3,hk,hkl,eX,aa]<;>omega)|(simp only[vb,and_true,true_implies];(repeat' (first|(with_reducible assumption)|(with_reducible apply And.intro)|intro _|((fail_if_success (with_reducible show(_:Int)≤_));assumption)))<;>first|omega|rfl|(simp only[ab,e1,f1,h1,f3,hk,hkl,eX,aa];done)|(simp[Nat.mul_one,e1,f1,h1,f3,hk,hkl,eX,aa]<;>omega)|(simp_all;done)))),?_⟩
    refine bJ [(26,{val:=some (.pv (.agg [.int .i64 q.first,.int .i64 q.size,.sl q.least.length (q.least.flatMap bS)]))}),(31,{val:=some (.pv (.int .i64 k))}),(33,{val:=some (.pv (.bool false))}),(39,{val:=some (.pv (.bool false))}),(44,{val:=some (.pv (.bool true)),args:=some [.agg (jL s rows b ch),.agg [.int .i64 q.first,.int .i64 q.size,aa q.least],.int .i64 k]})] ?_;dsimp only[aE,ae,ax,aA,aa,go_sem];try dsimp only[aE,ae,ax,aA,aa,go_sem]
    refine⟨(by first|exact True.intro|(simp only[vb,lb];omega)|(simp only[vb,lb,e1,f1,h1,f3,hk,hkl,eX,aa];and_intros<;>first|omega|(simp<;>omega))|(simp[vb,e1,f1,h1,f3,hk,hkl,eX,aa]<;>omega)),(by first|exact True.intro|((try dsimp only[go_sem]);first|(simp[vb,e1,f1,h1,f3,hk,hkl,eX,aa]<;>omega)|(simp only[vb,and_true,true_implies];(repeat' (first|(with_reducible assumption)|(with_reducible apply And.intro)|intro _|((fail_if_success (with_reducible show(_:Int)≤_));assumption)))<;>first|omega|rfl|(simp only[ab,e1,f1,h1,f3,hk,hkl,eX,aa];done)|(simp[Nat.mul_one,e1,f1,h1,f3,hk,hkl,eX,aa]<;>omega)|(simp_all;done)))),?_⟩
    refine bJ [(26,{val:=some (.pv (.agg [.int .i64 q.first,.int .i64 q.size,.sl q.least.length (q.least.flatMap bS)]))}),(31,{val:=some (.pv (.int .i64 k))}),(33,{val:=some (.pv (.bool false))}),(39,{val:=some (.pv (.bool false))}),(44,{val:=some (.pv (.bool true)),args:=some [.agg (jL s rows b ch),.agg [.int .i64 q.first,.int .i64 q.size,aa q.least],.int .i64 k]})] ?_;dsimp only[aE,ae,ax,aA,aa,go_sem];try dsimp only[aE,ae,ax,aA,aa,go_sem]
    refine⟨(by first|exact True.intro|(simp only[vb,lb];omega)|(simp only[vb,lb,e1,f1,h1,f3,hk,hkl,eX,aa];and_intros<;>first|omega|(simp<;>omega))|(simp[vb,e1,f1,h1,f3,hk,hkl,eX,aa]<;>omega)),(by first|exact True.intro|((try dsimp only[go_sem]);first|(simp[vb,e1,f1,h1,f3,hk,hkl,eX,aa]<;>omega)|(simp only[vb,and_true,true_implies];(repeat' (first|(with_reducible assumption)|(with_reducible apply And.intro)|intro _|((fail_if_success (with_reducible show(_:Int)≤_));assumption)))<;>first|omega|rfl|(simp only[ab,e1,f1,h1,f3,hk,hkl,eX,aa];done)|(simp[Nat.mul_one,e1,f1,h1,f3,hk,hkl,eX,aa]<;>omega)|(simp_all;done)))),?_⟩
    refine bJ [(26,{val:=some (.pv (.agg [.int .i64 q.first,.int .i64 q.size,.sl q.least.length (q.least.flatMap bS)]))}),(31,{val:=some (.pv (.int .i64 k))}),(33,{val:=some (.pv (.bool false))}),(39,{val:=some (.pv (.bool false))}),(44,{val:=some (.pv (.bool true)),args:=some [.agg (jL s rows b ch),.agg [.int .i64 q.first,.int .i64 q.size,aa q.least],.int .i64 k]})] ?_;dsimp only[aE,ae,ax,aA,aa,go_sem];refine⟨fun h=>by simp at h<;>omega,fun _=>?_⟩
    refine bJ [(26,{val:=some (.pv (.agg [.int .i64 q.first,.int .i64 q.size,.sl q.least.length (q.least.flatMap bS)]))}),(31,{val:=some (.pv (.int .i64 k))}),(33,{val:=some (.pv (.bool false))}),(39,{val:=some (.pv (.bool false))}),(44,{val:=some (.pv (.bool true)),args:=some [.agg (jL s rows b ch),.agg [.int .i64 q.first,.int .i64 q.size,aa q.least],.int .i64 k]})] ?_;dsimp only[aE,ae,ax,aA,aa,go_sem]
    refine bJ [(26,{val:=some (.pv (.agg [.int .i64 q.first,.int .i64 q.size,.sl q.least.length (q.least.flatMap bS)]))}),(31,{val:=some (.pv (.int .i64 k))}),(33,{val:=some (.pv (.bool false))}),(39,{val:=some (.pv (.bool false))}),(44,{val:=some (.pv (.bool true)),args:=some [.agg (jL s rows b ch),.agg [.int .i64 q.first,.int .i64 q.size,aa q.least],.int .i64 k]})] ?_;dsimp only[aE,ae,ax,aA,aa,go_sem];try dsimp only[aE,ae,ax,aA,aa,go_sem]
    refine⟨(by first|exact True.intro|(simp only[vb,lb];omega)|(simp only[vb,lb,e1,f1,h1,f3,hk,hkl,eX,aa];and_intros<;>first|omega|(simp<;>omega))|(simp[vb,e1,f1,h1,f3,hk,hkl,eX,aa]<;>omega)),?_,?_⟩
    ·rw[hth1,cond_true,hth2];exact⟨rfl,hcl,trivial⟩
    refine bJ [(55,{val:=some (.pv (.int .i64 y.hi))}),(60,{val:=some (.pv (.int .i64 lk))})] ?_;dsimp only[aE,ae,ax,aA,aa,go_sem];refine⟨fun _=>?_,fun h=>by simp at h<;>omega⟩;refine kP (T:=[]) (H:=[(55,{val:=some (.pv (.int .i64 y.hi))}),(60,{val:=some (.pv (.int .i64 lk))})]) (by rfl) ?_;dsimp only[eg,aE,ae,ax,aA,aa,go_sem];try dsimp only[aE,ae,ax,aA,aa,go_sem]
    refine⟨(by first|exact True.intro|(simp only[vb,lb];omega)|(simp only[vb,lb,e2,e3,f2,f3,hcb,hkl];and_intros<;>first|omega|(simp<;>omega))|(simp[vb,e2,e3,f2,f3,hcb,hkl]<;>omega)),(by first|exact True.intro|((try dsimp only[go_sem]);first|(simp[vb,e2,e3,f2,f3,hcb,hkl]<;>omega)|(simp only[vb,and_true,true_implies];(repeat' (first|(with_reducible assumption)|(with_reducible apply And.intro)|intro _|((fail_if_success (with_reducible show(_:Int)≤_));assumption)))<;>first|omega|rfl|(simp only[ab,e2,e3,f2,f3,hcb,hkl];done)|(simp[Nat.mul_one,e2,e3,f2,f3,hcb,hkl]<;>omega)|(simp_all;done)))),?_⟩
    rw[show(((b.flatMap jM).map AV.pv).set (0+(c:Int).toNat*2+1) (.pv (.int .i64 (if lk-1<y.hi then lk-1 else y.hi))))=((b.set c ⟨y.lo,if lk-1<y.hi then lk-1 else y.hi⟩).flatMap jM).map AV.pv from by rw[←e5];simp];rw[pb];have e7:=yR (b.set c ⟨y.lo,min y.hi (lk-1)⟩) c (by simpa using hcb);have e8:=yQ (b.set c ⟨y.lo,min y.hi (lk-1)⟩) c (by simpa using hcb);have e9:=du (b.set c ⟨y.lo,min y.hi (lk-1)⟩);rw[e6 _ hcb]at e7 e8;rw[List.length_set]at e9;clear e5 e6;generalize b.set c ⟨y.lo,min y.hi (lk-1)⟩=b2 at *;repeat' (first
     |((with_reducible show aH _);(simp only[vb,lb,e7,e8,e9,hcb];and_intros<;>first|omega|(simp<;>omega)))
     |((with_reducible show aP _);((try dsimp only[go_sem]);(simp only[vb,and_true,true_implies];(repeat' (first|(with_reducible assumption)|(with_reducible apply And.intro)|intro _|((fail_if_success (with_reducible show(_:Int)≤_));assumption)))<;>(simp only[ab,e7,e8,e9,hcb];done))))
     |exact(rfl:some _=_)
     |(
      fail_if_success refine a7 ?_
      refine bJ [(71,{val:=some (.pv (.int .i64 y.lo))}),(78,{val:=some (.pv (.int .i64 (min y.hi (lk-1))))})] ?_;repeat1' dsimp only[p6,go_sem]
      first
      |refine a8 ?_ ?_ rfl ?_
      |apply ba
      |apply bc
      |(refine bf (fun hc=>?_) fun hc=>?_<;>first|(cases hc;done)|(try simp only[bn]at hc;try contradiction))
      |skip))
    exact⟨⟨trivial,rfl⟩,_,rfl⟩
   |false =>
    simp only[Bool.false_eq_true,if_false,ep,gk,aO,bB];have e7:b.set c y=b:=by
     refine List.ext_getElem? fun j=>?_
     by_cases hj:c=j
     ·subst hj;rw[List.getElem?_set_self hcb,←hy,List.getD,List.getElem?_eq_getElem hcb];rfl
     ·rw[List.getElem?_set_ne hj]
    rw[e7];clear e5 e6 e7;refine bq (C:=ctx) (Fn.of sG rfl) rfl (by simp) rfl (by simp[aM,dA]) ?_;unfold p6;refine bJ [(26,{val:=some (.pv (.agg [.int .i64 q.first,.int .i64 q.size,.sl q.least.length (q.least.flatMap bS)]))}),(31,{val:=some (.pv (.int .i64 k))}),(33,{val:=some (.pv (.bool false))}),(39,{val:=some (.pv (.bool false))}),(44,{val:=some (.pv (.bool false)),args:=some [.agg (jL s rows b ch),.agg [.int .i64 q.first,.int .i64 q.size,aa q.least],.int .i64 k]})] ?_;dsimp only[aE,ae,ax,aA,aa,go_sem];try dsimp only[aE,ae,ax,aA,aa,go_sem]
    refine⟨(by first|exact True.intro|(simp only[vb,lb];omega)|(simp only[vb,lb,e1,f1,h1,f3,hk,hkl,eX,aa];and_intros<;>first|omega|(simp<;>omega))|(simp[vb,e1,f1,h1,f3,hk,hkl,eX,aa]<;>omega)),(by first|exact True.intro|((try dsimp only[go_sem]);first|(simp[vb,e1,f1,h1,f3,hk,hkl,eX,aa]<;>omega)|(simp only[vb,and_true,true_implies];(repeat' (first|(with_reducible assumption)|(with_reducible apply And.intro)|intro _|((fail_if_success (with_reducible show(_:Int)≤_));assumption)))<;>first|omega|rfl|(simp only[ab,e1,f1,h1,f3,hk,hkl,eX,aa];done)|(simp[Nat.mul_one,e1,f1,h1,f3,hk,hkl,eX,aa]<;>omega)|(simp_all;done)))),?_⟩
    refine bJ [(26,{val:=some (.pv (.agg [.int .i64 q.first,.int .i64 q.size,.sl q.least.length (q.least.flatMap bS)]))}),(31,{val:=some (.pv (.int .i64 k))}),(33,{val:=some (.pv (.bool false))}),(39,{val:=some (.pv (.bool false))}),(44,{val:=some (.pv (.bool false)),args:=some [.agg (jL s rows b ch),.agg [.int .i64 q.first,.int .i64 q.size,aa q.least],.int .i64 k]})] ?_;dsimp only[aE,ae,ax,aA,aa,go_sem];try dsimp only[aE,ae,ax,aA,aa,go_sem]
    refine⟨(by simp[vb,e1,f1,h1,f3,hk,hkl,eX,aa]<;>omega),(by simp[vb,e1,f1,h1,f3,hk,hkl,eX,aa]<;>omega),?_⟩;refine bJ [(26,{val:=some (.pv (.agg [.int .i64 q.first,.int .i64 q.size,.sl q.least.length (q.least.flatMap bS)]))}),(31,{val:=some (.pv (.int .i64 k))}),(33,{val:=some (.pv (.bool false))}),(39,{val:=some (.pv (.bool false))}),(44,{val:=some (.pv (.bool false)),args:=some [.agg (jL s rows b ch),.agg [.int .i64 q.first,.int .i64 q.size,aa q.least],.int .i64 k]})] ?_;dsimp only[aE,ae,ax,aA,aa,go_sem];refine⟨fun _=>?_,fun h=>by simp at h<;>omega⟩
    refine bJ [(26,{val:=some (.pv (.agg [.int .i64 q.first,.int .i64 q.size,.sl q.least.length (q.least.flatMap bS)]))}),(31,{val:=some (.pv (.int .i64 k))}),(33,{val:=some (.pv (.bool false))}),(39,{val:=some (.pv (.bool false))}),(44,{val:=some (.pv (.bool false)),args:=some [.agg (jL s rows b ch),.agg [.int .i64 q.first,.int .i64 q.size,aa q.least],.int .i64 k]})] ?_;dsimp only[aE,ae,ax,aA,aa,go_sem];try dsimp only[aE,ae,ax,aA,aa,go_sem]
    refine⟨(by first|exact True.intro|(simp only[vb,lb];omega)|(simp only[vb,lb,e1,f1,h1,f3,hk,hkl,eX,aa];and_intros<;>first|omega|(simp<;>omega))|(simp[vb,e1,f1,h1,f3,hk,hkl,eX,aa]<;>omega)),(by first|exact True.intro|((try dsimp only[go_sem]);first|(simp[vb,e1,f1,h1,f3,hk,hkl,eX,aa]<;>omega)|(simp only[vb,and_true,true_implies];(repeat' (first|(with_reducible assumption)|(with_reducible apply And.intro)|intro _|((fail_if_success (with_reducible show(_:Int)≤_));assumption)))<;>first|omega|rfl|(simp only[ab,e1,f1,h1,f3,hk,hkl,eX,aa];done)|(simp[Nat.mul_one,e1,f1,h1,f3,hk,hkl,eX,aa]<;>omega)|(simp_all;done)))),?_⟩
    refine bJ [(26,{val:=some (.pv (.agg [.int .i64 q.first,.int .i64 q.size,.sl q.least.length (q.least.flatMap bS)]))}),(31,{val:=some (.pv (.int .i64 k))}),(33,{val:=some (.pv (.bool false))}),(39,{val:=some (.pv (.bool false))}),(44,{val:=some (.pv (.bool false)),args:=some [.agg (jL s rows b ch),.agg [.int .i64 q.first,.int .i64 q.size,aa q.least],.int .i64 k]})] ?_;dsimp only[aE,ae,ax,aA,aa,go_sem];refine⟨fun h=>by simp at h<;>omega,fun _=>?_⟩
    refine bJ [(26,{val:=some (.pv (.agg [.int .i64 q.first,.int .i64 q.size,.sl q.least.length (q.least.flatMap bS)]))}),(31,{val:=some (.pv (.int .i64 k))}),(33,{val:=some (.pv (.bool false))}),(39,{val:=some (.pv (.bool false))}),(44,{val:=some (.pv (.bool false)),args:=some [.agg (jL s rows b ch),.agg [.int .i64 q.first,.int .i64 q.size,aa q.least],.int .i64 k]})] ?_;dsimp only[aE,ae,ax,aA,aa,go_sem]
    refine bJ [(26,{val:=some (.pv (.agg [.int .i64 q.first,.int .i64 q.size,.sl q.least.length (q.least.flatMap bS)]))}),(31,{val:=some (.pv (.int .i64 k))}),(33,{val:=some (.pv (.bool false))}),(39,{val:=some (.pv (.bool false))}),(44,{val:=some (.pv (.bool false)),args:=some [.agg (jL s rows b ch),.agg [.int .i64 q.first,.int .i64 q.size,aa q.least],.int .i64 k]})] ?_;dsimp only[aE,ae,ax,aA,aa,go_sem];try dsimp only[aE,ae,ax,aA,aa,go_sem]
    refine⟨(by first|exact True.intro|(simp only[vb,lb];omega)|(simp only[vb,lb,e1,f1,h1,f3,hk,hkl,eX,aa];and_intros<;>first|omega|(simp<;>omega))|(simp[vb,e1,f1,h1,f3,hk,hkl,eX,aa]<;>omega)),(by first|exact True.intro|((try dsimp only[go_sem]);first|(simp[vb,e1,f1,h1,f3,hk,hkl,eX,aa]<;>omega)|(simp only[vb,and_true,true_implies];(repeat' (first|(with_reducible assumption)|(with_reducible apply And.intro)|intro _|((fail_if_success (with_reducible show(_:Int)≤_));assumption)))<;>first|omega|rfl|(simp only[ab,e1,f1,h1,f3,hk,hkl,eX,aa];done)|(simp[Nat.mul_one,e1,f1,h1,f3,hk,hkl,eX,aa]<;>omega)|(simp_all;done)))),?_⟩
    refine bJ [(26,{val:=some (.pv (.agg [.int .i64 q.first,.int .i64 q.size,.sl q.least.length (q.least.flatMap bS)]))}),(31,{val:=some (.pv (.int .i64 k))}),(33,{val:=some (.pv (.bool false))}),(39,{val:=some (.pv (.bool false))}),(44,{val:=some (.pv (.bool false)),args:=some [.agg (jL s rows b ch),.agg [.int .i64 q.first,.int .i64 q.size,aa q.least],.int .i64 k]})] ?_;dsimp only[aE,ae,ax,aA,aa,go_sem];try dsimp only[aE,ae,ax,aA,aa,go_sem]
    refine⟨(by first|exact True.intro|(simp only[vb,lb];omega)|(simp only[vb,lb,e1,f1,h1,f3,hk,hkl,eX,aa];and_intros<;>first|omega|(simp<;>omega))|(simp[vb,e1,f1,h1,f3,hk,hkl,eX,aa]<;>omega)),(by first|exact True.intro|((try dsimp only[go_sem]);first|(simp[vb,e1,f1,h1,f3,hk,hkl,eX,aa]<;>omega)|(simp only[vb,and_true,true_implies];(repeat' (first|(with_reducible assumption)|(with_reducible apply And.intro)|intro _|((fail_if_success (with_reducible show(_:Int)≤_));assumption)))<;>first|omega|rfl|(simp only[ab,e1,f1,h1,f3,hk,hkl,eX,aa];done)|(simp[Nat.mul_one,e1,f1,h1,f3,hk,hkl,eX,aa]<;>omega)|(simp_all;done)))),?_⟩
    refine bJ [(26,{val:=some (.pv (.agg [.int .i64 q.first,.int .i64 q.size,.sl q.least.length (q.least.flatMap bS)]))}),(31,{val:=some (.pv (.int .i64 k))}),(33,{val:=some (.pv (.bool false))}),(39,{val:=some (.pv (.bool false))}),(44,{val:=some (.pv (.bool false)),args:=some [.agg (jL s rows b ch),.agg [.int .i64 q.first,.int .i64 q.size,aa q.least],.int .i64 k]})] ?_;dsimp only[aE,ae,ax,aA,aa,go_sem];try dsimp only[aE,ae,ax,aA,aa,go_sem]
    refine⟨(by first|exact True.intro|(simp only[vb,lb];omega)|(simp only[vb,lb,e1,f1,h1,f3,hk,hkl,eX,aa];and_intros<;>first|omega|(simp<;>omega))|(simp[vb,e1,f1,h1,f3,hk,hkl,eX,aa]<;>omega)),(by first|exact True.intro|((try dsimp only[go_sem]);first|(simp[vb,e1,f1,h1,f3,hk,hkl,eX,aa]<;>omega)|(simp only[vb,and_true,true_implies];(repeat' (first|(with_reducible assumption)|(with_reducible apply And.intro)|intro _|((fail_if_success (with_reducible show(_:Int)≤_));assumption)))<;>first|omega|rfl|(simp only[ab,e1,f1,h1,f3,hk,hkl,eX,aa];done)|(simp[Nat.mul_one,e1,f1,h1,f3,hk,hkl,eX,aa]<;>omega)|(simp_all;done)))),?_⟩
    refine bJ [(26,{val:=some (.pv (.agg [.int .i64 q.first,.int .i64 q.size,.sl q.least.length (q.least.flatMap bS)]))}),(31,{val:=some (.pv (.int .i64 k))}),(33,{val:=some (.pv (.bool false))}),(39,{val:=some (.pv (.bool false))}),(44,{val:=some (.pv (.bool false)),args:=some [.agg (jL s rows b ch),.agg [.int .i64 q.first,.int .i64 q.size,aa q.least],.int .i64 k]})] ?_;dsimp only[aE,ae,ax,aA,aa,go_sem];refine⟨fun h=>by simp at h<;>omega,fun _=>?_⟩
    refine bJ [(26,{val:=some (.pv (.agg [.int .i64 q.first,.int .i64 q.size,.sl q.least.length (q.least.flatMap bS)]))}),(31,{val:=some (.pv (.int .i64 k))}),(33,{val:=some (.pv (.bool false))}),(39,{val:=some (.pv (.bool false))}),(44,{val:=some (.pv (.bool false)),args:=some [.agg (jL s rows b ch),.agg [.int .i64 q.first,.int .i64 q.size,aa q.least],.int .i64 k]})] ?_;dsimp only[aE,ae,ax,aA,aa,go_sem]
    refine bJ [(26,{val:=some (.pv (.agg [.int .i64 q.first,.int .i64 q.size,.sl q.least.length (q.least.flatMap bS)]))}),(31,{val:=some (.pv (.int .i64 k))}),(33,{val:=some (.pv (.bool false))}),(39,{val:=some (.pv (.bool false))}),(44,{val:=some (.pv (.bool false)),args:=some [.agg (jL s rows b ch),.agg [.int .i64 q.first,.int .i64 q.size,aa q.least],.int .i64 k]})] ?_;dsimp only[aE,ae,ax,aA,aa,go_sem];try dsimp only[aE,ae,ax,aA,aa,go_sem]
    refine⟨(by first|exact True.intro|(simp only[vb,lb];omega)|(simp only[vb,lb,e1,f1,h1,f3,hk,hkl,eX,aa];and_intros<;>first|omega|(simp<;>omega))|(simp[vb,e1,f1,h1,f3,hk,hkl,eX,aa]<;>omega)),?_,?_⟩
    ·rw[hth1,cond_true,hth2];exact⟨rfl,hcl,trivial⟩
    repeat' (first
     |((with_reducible show aH _);(simp only[vb,lb,e3,e4,f2,hcb];and_intros<;>first|omega|(simp<;>omega)))
     |((with_reducible show aP _);((try dsimp only[go_sem]);(simp only[vb,and_true,true_implies];(repeat' (first|(with_reducible assumption)|(with_reducible apply And.intro)|intro _|((fail_if_success (with_reducible show(_:Int)≤_));assumption)))<;>(simp only[ab,e3,e4,f2,hcb];done))))
     |exact(rfl:some _=_)
     |(
      fail_if_success refine a7 ?_
      refine bJ [(71,{val:=some (.pv (.int .i64 y.lo))}),(78,{val:=some (.pv (.int .i64 y.hi))})] ?_;repeat1' dsimp only[p6,go_sem]
      first
      |refine a8 ?_ ?_ rfl ?_
      |apply ba
      |apply bc
      |(refine bf (fun hc=>?_) fun hc=>?_<;>first|(cases hc;done)|(try simp only[bn]at hc;try contradiction))
      |skip))
    exact⟨⟨trivial,rfl⟩,_,rfl⟩
  ·simp only[h2,if_false];simp only[ep,gk,aO,bB];clear hcl;have f3:=cJ q.least;have hql:q.least.length≤36:=by omega
   refine bq (C:=ctx) (Fn.of sG rfl) rfl (by simp) rfl (by simp[aM,dA]) ?_;unfold p6;refine bJ [(26,{val:=some (.pv (.agg [.int .i64 q.first,.int .i64 q.size,.sl q.least.length (q.least.flatMap bS)]))})] ?_;dsimp only[aE,ae,ax,aA,aa,go_sem];try dsimp only[aE,ae,ax,aA,aa,go_sem]
   refine⟨(by first|exact True.intro|(simp only[vb,lb];omega)|(simp only[vb,lb,e1,f1,h1,f3,eX,aa];and_intros<;>first|omega|(simp<;>omega))|(simp[vb,e1,f1,h1,f3,eX,aa]<;>omega)),(by first|exact True.intro|((try dsimp only[go_sem]);first|(simp[vb,e1,f1,h1,f3,eX,aa]<;>omega)|(simp only[vb,and_true,true_implies];(repeat' (first|(with_reducible assumption)|(with_reducible apply And.intro)|intro _|((fail_if_success (with_reducible show(_:Int)≤_));assumption)))<;>first|omega|rfl|(simp only[ab,e1,f1,h1,f3,eX,aa];done)|(simp[Nat.mul_one,e1,f1,h1,f3,eX,aa]<;>omega)|(simp_all;done)))),?_⟩
   refine bJ [(26,{val:=some (.pv (.agg [.int .i64 q.first,.int .i64 q.size,.sl q.least.length (q.least.flatMap bS)]))})] ?_;dsimp only[aE,ae,ax,aA,aa,go_sem];try dsimp only[aE,ae,ax,aA,aa,go_sem]
   refine⟨(by simp[vb,e1,f1,h1,f3,eX,aa]<;>omega),(by simp[vb,e1,f1,h1,f3,eX,aa]<;>omega),?_⟩;refine bJ [(26,{val:=some (.pv (.agg [.int .i64 q.first,.int .i64 q.size,.sl q.least.length (q.least.flatMap bS)]))})] ?_;dsimp only[aE,ae,ax,aA,aa,go_sem];refine⟨fun _=>?_,fun h=>by simp at h<;>omega⟩;refine bJ [(26,{val:=some (.pv (.agg [.int .i64 q.first,.int .i64 q.size,.sl q.least.length (q.least.flatMap bS)]))})] ?_;dsimp only[aE,ae,ax,aA,aa,go_sem];try dsimp only[aE,ae,ax,aA,aa,go_sem]
   refine⟨(by first|exact True.intro|(simp only[vb,lb];omega)|(simp only[vb,lb,e1,f1,h1,f3,eX,aa];and_intros<;>first|omega|(simp<;>omega))|(simp[vb,e1,f1,h1,f3,eX,aa]<;>omega)),(by first|exact True.intro|((try dsimp only[go_sem]);first|(simp[vb,e1,f1,h1,f3,eX,aa]<;>omega)|(simp only[vb,and_true,true_implies];(repeat' (first|(with_reducible assumption)|(with_reducible apply And.intro)|intro _|((fail_if_success (with_reducible show(_:Int)≤_));assumption)))<;>first|omega|rfl|(simp only[ab,e1,f1,h1,f3,eX,aa];done)|(simp[Nat.mul_one,e1,f1,h1,f3,eX,aa]<;>omega)|(simp_all;done)))),?_⟩
   refine bJ [(26,{val:=some (.pv (.agg [.int .i64 q.first,.int .i64 q.size,.sl q.least.length (q.least.flatMap bS)]))})] ?_;dsimp only[aE,ae,ax,aA,aa,go_sem];refine⟨fun h=>by simp at h<;>omega,fun _=>?_⟩;refine bJ [(26,{val:=some (.pv (.agg [.int .i64 q.first,.int .i64 q.size,.sl q.least.length (q.least.flatMap bS)]))})] ?_;dsimp only[aE,ae,ax,aA,aa,go_sem];refine bJ [(26,{val:=some (.pv (.agg [.int .i64 q.first,.int .i64 q.size,.sl q.least.length (q.least.flatMap bS)]))})] ?_;dsimp only[aE,ae,ax,aA,aa,go_sem]
   try dsimp only[aE,ae,ax,aA,aa,go_sem]
   refine⟨(by first|exact True.intro|(simp only[vb,lb];omega)|(simp only[vb,lb,e1,f1,h1,f3,eX,aa];and_intros<;>first|omega|(simp<;>omega))|(simp[vb,e1,f1,h1,f3,eX,aa]<;>omega)),(by first|exact True.intro|((try dsimp only[go_sem]);first|(simp[vb,e1,f1,h1,f3,eX,aa]<;>omega)|(simp only[vb,and_true,true_implies];(repeat' (first|(with_reducible assumption)|(with_reducible apply And.intro)|intro _|((fail_if_success (with_reducible show(_:Int)≤_));assumption)))<;>first|omega|rfl|(simp only[ab,e1,f1,h1,f3,eX,aa];done)|(simp[Nat.mul_one,e1,f1,h1,f3,eX,aa]<;>omega)|(simp_all;done)))),?_⟩
   refine bJ [(26,{val:=some (.pv (.agg [.int .i64 q.first,.int .i64 q.size,.sl q.least.length (q.least.flatMap bS)]))})] ?_;dsimp only[aE,ae,ax,aA,aa,go_sem];try dsimp only[aE,ae,ax,aA,aa,go_sem]
   refine⟨(by first|exact True.intro|(simp only[vb,lb];omega)|(simp only[vb,lb,e1,f1,h1,f3,eX,aa];and_intros<;>first|omega|(simp<;>omega))|(simp[vb,e1,f1,h1,f3,eX,aa]<;>omega)),(by first|exact True.intro|((try dsimp only[go_sem]);first|(simp[vb,e1,f1,h1,f3,eX,aa]<;>omega)|(simp only[vb,and_true,true_implies];(repeat' (first|(with_reducible assumption)|(with_reducible apply And.intro)|intro _|((fail_if_success (with_reducible show(_:Int)≤_));assumption)))<;>first|omega|rfl|(simp only[ab,e1,f1,h1,f3,eX,aa];done)|(simp[Nat.mul_one,e1,f1,h1,f3,eX,aa]<;>omega)|(simp_all;done)))),?_⟩
   by_cases h3:(c:Int)-q.first<0
   ·repeat' (first
     |((with_reducible show aH _);exact True.intro)
     |((with_reducible show aP _);first|exact True.intro|((try dsimp only[go_sem]);(simp[vb,h3]<;>omega)))
     |exact(rfl:some _=_)
     |(
      fail_if_success refine a7 ?_
      refine bJ [(33,{val:=some (.pv (.bool true))})] ?_;repeat1' dsimp only[p6,go_sem]
      first
      |refine a8 ?_ ?_ rfl ?_
      |apply ba
      |apply bc
      |(refine bf (fun hc=>?_) fun hc=>?_<;>first|(cases hc;done)|(try simp only[bn]at hc;try contradiction))
      |skip))
    all_goals exact⟨⟨trivial,rfl⟩,_,rfl⟩
   ·repeat' (first
     |((with_reducible show aH _);exact True.intro)
     |((with_reducible show aP _);first|exact True.intro|((try dsimp only[go_sem]);(simp[vb,h3]<;>omega)))
     |exact(rfl:some _=_)
     |(
      fail_if_success refine a7 ?_
      refine bJ [(33,{val:=some (.pv (.bool false))}),(39,{val:=some (.pv (.bool true))})] ?_;repeat1' dsimp only[p6,go_sem]
      first
      |refine a8 ?_ ?_ rfl ?_
      |apply ba
      |apply bc
      |(refine bf (fun hc=>?_) fun hc=>?_<;>first|(cases hc;done)|(try simp only[bn]at hc;try contradiction))
      |skip))
    all_goals exact⟨⟨trivial,rfl⟩,_,rfl⟩
 ·simp only[show ¬(i:Int)<s.graphs.length from by omega,if_false];simp only[ep,gk,aO,bB];refine bq (C:=ctx) (Fn.of sG rfl) rfl (by simp) rfl (by simp[aM,dA]) ?_;unfold p6;repeat' (first
   |((with_reducible show aH _);first|exact True.intro|(simp only[vb,lb,h1];and_intros<;>first|omega|(simp<;>omega)))
   |((with_reducible show aP _);exact True.intro)
   |exact(rfl:some _=_)
   |(
    fail_if_success refine a7 ?_
    refine aV ?_;repeat1' dsimp only[p6,aE,ae,ax,aA,go_sem]
    first
    |refine a8 ?_ ?_ rfl ?_
    |apply ba
    |apply bc
    |(refine bf (fun hc=>?_) fun hc=>?_<;>first|(cases hc;done)|(exfalso;(simp at hc<;>omega))|(try simp only[bn]at hc;try contradiction))
    |skip))
  all_goals exact⟨⟨trivial,rfl⟩,_,rfl⟩
end
section
open Rf
set_option maxHeartbeats 8000000 in
theorem Db (s:Sy) (rows:List Rw) (b:List Rg) (g:Nat) (ch:Bool) (x:bj) (hx:bY x=true) (hk:x.kind=0) (hr:rows.length≤1000000000) (hrt:∀r∈rows,r.terms.length≤1000000000) (hb:b.length≤1000000000) :
  aJ ctx 78 [.agg (ep s rows (.ref 0 g 0 b.length) ch),.pv (gk x)] [bB b g] (.pv (.tup [.bool (ei s rows b x).2.1,.bool (ei s rows b x).2.2])) [bB (ei s rows b x).1 g]:=by
 simp only[bY,hk,aK,Bool.and_eq_true,decide_eq_true_eq]at hx;obtain⟨⟨-,x1,x2⟩,x3,x4⟩:=hx;have x3: -1≤x.cell:=by simpa using x3
 obtain⟨i,hi⟩:∃i:Nat,x.index=i:=⟨x.index.toNat,by omega⟩
 obtain⟨kd,ix,cl⟩:=x;simp only at *;subst hk hi;unfold ei;rw[if_neg (show ¬(0:Int)=1 by decide)];dsimp only;rw[Int.toNat_natCast];have f1:=j7 rows;have f2:=du b;obtain⟨hth1,hth2⟩:=nr b g;by_cases h1:(i:Int)<rows.length∧cl<b.length
 ·obtain⟨h1,h2⟩:=h1;have h1':i<rows.length:=by omega
  have e1:=dC j6 rows i zw h1';have ht:=hrt _ (aT (d:=zw) h1');have hti:=fun c=>yH b (rows.getD i zw) c hb ht
  rw[if_pos ⟨h1,h2⟩];clear hrt;generalize rows.getD i zw=q at *;by_cases h3:cl<0
  ·rw[if_pos h3];simp only[ep,gk,aO,bB];obtain⟨ts,bd⟩:=q;simp only at *;have f3:=jn ts;refine bq (C:=ctx) (Fn.of sG rfl) rfl (by simp) rfl (by simp[aM,dA]) ?_;unfold p6;cases ts with
   |nil =>
    repeat' (first
     |((with_reducible show aH _);first|exact True.intro|(simp only[vb,lb,e1,f1,h1,h1',h2,h3,eZ,au];and_intros<;>first|omega|(simp<;>omega)))
     |((with_reducible show aP _);first|exact True.intro|((try dsimp only[go_sem]);(simp[vb,e1,f1,h1,h1',h2,h3,eZ,au]<;>omega)))
     |exact(rfl:some _=_)
     |(
      fail_if_success refine a7 ?_
      refine bJ [(99,{val:=some (.pv (.agg [.sl 0 [],.int .i64 bd]))}),(102,{val:=some (.pv (.bool true))})] ?_;repeat1' dsimp only[p6,ax,ae,aE,aA,au,eZ,go_sem]
      first
      |refine a8 ?_ ?_ rfl ?_
      |apply ba
      |apply bc
      |(refine bf (fun hc=>?_) fun hc=>?_<;>first|(cases hc;done)|(exfalso;(simp at hc<;>omega))|(try simp only[bn]at hc;try contradiction))
      |skip))
    all_goals exact⟨⟨trivial,by simp⟩,_,rfl⟩
   |cons t0 tr =>
    repeat' (first
     |((with_reducible show aH _);first|exact True.intro|(simp only[vb,lb,e1,f1,h1,h1',h2,h3,eZ,au];and_intros<;>first|omega|(simp<;>omega)))
     |((with_reducible show aP _);first|exact True.intro|((try dsimp only[go_sem]);(simp[vb,e1,f1,h1,h1',h2,h3,eZ,au]<;>omega)))
     |exact(rfl:some _=_)
     |(
      fail_if_success refine a7 ?_
      refine bJ [(99,{val:=some (.pv (.agg [.sl (tr.length+1) ((t0::tr).flatMap kG),.int .i64 bd]))}),(102,{val:=some (.pv (.bool true))}),(106,{val:=some (.pv (.bool false))})] ?_;repeat1' dsimp only[p6,ax,ae,aE,aA,au,eZ,go_sem]
      first
      |refine a8 ?_ ?_ rfl ?_
      |apply ba
      |apply bc
      |(refine bf (fun hc=>?_) fun hc=>?_<;>first|(cases hc;done)|(exfalso;(simp at hc<;>omega))|(try simp only[bn]at hc;try contradiction))
      |skip))
    all_goals exact⟨⟨trivial,by simp⟩,_,rfl⟩
  ·obtain⟨c,rfl⟩:∃c:Nat,cl=c:=⟨cl.toNat,by omega⟩
   have hcb:c<b.length:=by omega
   rw[if_neg h3];simp only[ep,gk,aO,bB,Int.toNat_natCast];have hti:=hti c;have e5:=fun lo hi=>s4 b c lo hi hcb
   have e6:=nL b c;generalize jw q b c=y at *;unfold au at hti;refine bq (C:=ctx) (Fn.of sG rfl) rfl (by simp) rfl (by simp[aM,dA]) ?_;unfold p6;refine bJ [(85,{val:=some (.pv (.bool false))}),(92,{val:=some (.pv (.bool false))}),(99,{val:=some (.pv (.agg [.sl q.terms.length (q.terms.flatMap kG),.int .i64 q.bound]))}),(102,{val:=some (.pv (.bool false))}),(123,{val:=some (.pv (.agg [.int .i64 y.lo,.int .i64 y.hi])),args:=some [.agg [.sl q.terms.length (q.terms.flatMap kG),.int .i64 q.bound],ae b,.int .i64 c]})] ?_
   dsimp only[ax,ae,aE,aA,au,go_sem];try dsimp only[ax,ae,aE,aA,au,go_sem]
   refine⟨(by first|exact True.intro|(simp only[vb,lb];omega)|(simp only[vb,lb,e1,f1,f2,h1,h1',h2,h3,hcb,eZ,au];and_intros<;>first|omega|(simp<;>omega))|(simp[vb,e1,f1,f2,h1,h1',h2,h3,hcb,eZ,au]<;>omega)),(by first|exact True.intro|((try dsimp only[go_sem]);first|(simp[vb,e1,f1,f2,h1,h1',h2,h3,hcb,eZ,au]<;>omega)|(simp only[vb,and_true,true_implies];(repeat' (first|(with_reducible assumption)|(with_reducible apply And.intro)|intro _|((fail_if_success (with_reducible show(_:Int)≤_));assumption)))<;>first|omega|rfl|(simp only[ab,e1,f1,f2,h1,h1',h2,h3,hcb,eZ,au];done)|(simp[Nat.mul_one,e1,f1,f2,h1,h1',h2,h3,hcb,eZ,au]<;>omega)|(simp_all;done)))),?_⟩
   iterate 5 first
    |refine⟨fun h=>by simp at h<;>omega,fun _=>?_⟩
    |refine⟨by simp[vb,e1,f1,f2,h1,h1',h2,h3,hcb,eZ,au]<;>omega,by simp[vb,e1,f1,f2,h1,h1',h2,h3,hcb,eZ,au]<;>omega,?_⟩
    |(refine bJ [(85,{val:=some (.pv (.bool false))}),(92,{val:=some (.pv (.bool false))}),(99,{val:=some (.pv (.agg [.sl q.terms.length (q.terms.flatMap kG),.int .i64 q.bound]))}),(102,{val:=some (.pv (.bool false))}),(123,{val:=some (.pv (.agg [.int .i64 y.lo,.int .i64 y.hi])),args:=some [.agg [.sl q.terms.length (q.terms.flatMap kG),.int .i64 q.bound],ae b,.int .i64 c]})] ?_;iterate 2 (try dsimp only[ax,ae,aE,aA,au,go_sem]))
   refine bJ [(85,{val:=some (.pv (.bool false))}),(92,{val:=some (.pv (.bool false))}),(99,{val:=some (.pv (.agg [.sl q.terms.length (q.terms.flatMap kG),.int .i64 q.bound]))}),(102,{val:=some (.pv (.bool false))}),(123,{val:=some (.pv (.agg [.int .i64 y.lo,.int .i64 y.hi])),args:=some [.agg [.sl q.terms.length (q.terms.flatMap kG),.int .i64 q.bound],ae b,.int .i64 c]})] ?_;dsimp only[ax,ae,aE,aA,au,go_sem];try dsimp only[ax,ae,aE,aA,au,go_sem]
   refine⟨(by first|exact True.intro|(simp only[vb,lb];omega)|(simp only[vb,lb,e1,f1,f2,h1,h1',h2,h3,hcb,eZ,au];and_intros<;>first|omega|(simp<;>omega))|(simp[vb,e1,f1,f2,h1,h1',h2,h3,hcb,eZ,au]<;>omega)),(by first|exact True.intro|((try dsimp only[go_sem]);first|(simp[vb,e1,f1,f2,h1,h1',h2,h3,hcb,eZ,au]<;>omega)|(simp only[vb,and_true,true_implies];(repeat' (first|(with_reducible assumption)|(with_reducible apply And.intro)|intro _|((fail_if_success (with_reducible show(_:Int)≤_));assumption)))<;>first|omega|rfl|(simp only[ab,e1,f1,f2,h1,h1',h2,h3,hcb,eZ,au];done)|(simp[Nat.mul_one,e1,f1,f2,h1,h1',h2,h3,hcb,eZ,au]<;>omega)|(simp_all;done)))),?_⟩
   refine bJ [(85,{val:=some (.pv (.bool false))}),(92,{val:=some (.pv (.bool false))}),(99,{val:=some (.pv (.agg [.sl q.terms.length (q.terms.flatMap kG),.int .i64 q.bound]))}),(102,{val:=some (.pv (.bool false))}),(123,{val:=some (.pv (.agg [.int .i64 y.lo,.int .i64 y.hi])),args:=some [.agg [.sl q.terms.length (q.terms.flatMap kG),.int .i64 q.bound],ae b,.int .i64 c]})] ?_;dsimp only[ax,ae,aE,aA,au,go_sem];refine⟨fun h=>by simp at h<;>omega,fun _=>?_⟩
   refine bJ [(85,{val:=some (.pv (.bool false))}),(92,{val:=some (.pv (.bool false))}),(99,{val:=some (.pv (.agg [.sl q.terms.length (q.terms.flatMap kG),.int .i64 q.bound]))}),(102,{val:=some (.pv (.bool false))}),(123,{val:=some (.pv (.agg [.int .i64 y.lo,.int .i64 y.hi])),args:=some [.agg [.sl q.terms.length (q.terms.flatMap kG),.int .i64 q.bound],ae b,.int .i64 c]})] ?_;dsimp only[ax,ae,aE,aA,au,go_sem]
   refine bJ [(85,{val:=some (.pv (.bool false))}),(92,{val:=some (.pv (.bool false))}),(99,{val:=some (.pv (.agg [.sl q.terms.length (q.terms.flatMap kG),.int .i64 q.bound]))}),(102,{val:=some (.pv (.bool false))}),(123,{val:=some (.pv (.agg [.int .i64 y.lo,.int .i64 y.hi])),args:=some [.agg [.sl q.terms.length (q.terms.flatMap kG),.int .i64 q.bound],ae b,.int .i64 c]})] ?_;dsimp only[ax,ae,aE,aA,au,go_sem];try dsimp only[ax,ae,aE,aA,au,go_sem]
   refine⟨(by first|exact True.intro|(simp only[vb,lb];omega)|(simp only[vb,lb,e1,f1,f2,h1,h1',h2,h3,hcb,eZ,au];and_intros<;>first|omega|(simp<;>omega))|(simp[vb,e1,f1,f2,h1,h1',h2,h3,hcb,eZ,au]<;>omega)),(by first|exact True.intro|((try dsimp only[go_sem]);first|(simp[vb,e1,f1,f2,h1,h1',h2,h3,hcb,eZ,au]<;>omega)|(simp only[vb,and_true,true_implies];(repeat' (first|(with_reducible assumption)|(with_reducible apply And.intro)|intro _|((fail_if_success (with_reducible show(_:Int)≤_));assumption)))<;>first|omega|rfl|(simp only[ab,e1,f1,f2,h1,h1',h2,h3,hcb,eZ,au];done)|(simp[Nat.mul_one,e1,f1,f2,h1,h1',h2,h3,hcb,eZ,au]<;>omega)|(simp_all;done)))),?_⟩
   iterate 5 first
    |refine⟨fun h=>by simp at h<;>omega,fun _=>?_⟩
    |refine⟨by simp[vb,e1,f1,f2,h1,h1',h2,h3,hcb,eZ,au]<;>omega,by simp[vb,e1,f1,f2,h1,h1',h2,h3,hcb,eZ,au]<;>omega,?_⟩
    |(refine bJ [(85,{val:=some (.pv (.bool false))}),(92,{val:=some (.pv (.bool false))}),(99,{val:=some (.pv (.agg [.sl q.terms.length (q.terms.flatMap kG),.int .i64 q.bound]))}),(102,{val:=some (.pv (.bool false))}),(123,{val:=some (.pv (.agg [.int .i64 y.lo,.int .i64 y.hi])),args:=some [.agg [.sl q.terms.length (q.terms.flatMap kG),.int .i64 q.bound],ae b,.int .i64 c]})] ?_;iterate 2 (try dsimp only[ax,ae,aE,aA,au,go_sem]))
   refine bU (kP (T:=[]) (H:=[(85,{val:=some (.pv (.bool false))}),(92,{val:=some (.pv (.bool false))}),(99,{val:=some (.pv (.agg [.sl q.terms.length (q.terms.flatMap kG),.int .i64 q.bound]))}),(102,{val:=some (.pv (.bool false))}),(123,{val:=some (.pv (.agg [.int .i64 y.lo,.int .i64 y.hi])),args:=some [.agg [.sl q.terms.length (q.terms.flatMap kG),.int .i64 q.bound],ae b,.int .i64 c]})]) (by rfl) ?_);dsimp only[eg,ax,ae,aE,aA,au,go_sem];try dsimp only[ax,ae,aE,aA,au,go_sem]
   refine⟨(by first|exact True.intro|(simp only[vb,lb];omega)|(simp only[vb,lb,e1,f1,f2,h1,h1',h2,h3,hcb,eZ,au];and_intros<;>first|omega|(simp<;>omega))|(simp[vb,e1,f1,f2,h1,h1',h2,h3,hcb,eZ,au]<;>omega)),?_,?_⟩
   ·rw[hth1,cond_true,hth2];exact⟨rfl,hti,trivial⟩
   rw[show((((b.flatMap jM).map AV.pv).set (0+(c:Int).toNat*2) (.pv (.int .i64 y.lo))).set (0+(c:Int).toNat*2+1) (.pv (.int .i64 y.hi)))=((b.set c ⟨y.lo,y.hi⟩).flatMap jM).map AV.pv from by rw[←e5];simp];have e7:=yR (b.set c y) c (by simpa using hcb);have e8:=yQ (b.set c y) c (by simpa using hcb);have e9:=du (b.set c y);rw[e6 _ hcb]at e7 e8;rw[List.length_set]at e9;rw[show(⟨y.lo,y.hi⟩:Rg)=y from rfl];clear e5 e6;generalize b.set c y=b2 at *;repeat' (first
    |((with_reducible show aH _);(simp only[vb,lb,e7,e8,e9,hcb];and_intros<;>first|omega|(simp<;>omega)))
    |((with_reducible show aP _);((try dsimp only[go_sem]);(simp only[vb,and_true,true_implies];(repeat' (first|(with_reducible assumption)|(with_reducible apply And.intro)|intro _|((fail_if_success (with_reducible show(_:Int)≤_));assumption)))<;>(simp only[ab,e7,e8,e9,hcb];done))))
    |exact(rfl:some _=_)
    |(
     fail_if_success refine a7 ?_
     refine bJ [(131,{val:=some (.pv (.int .i64 y.lo))}),(138,{val:=some (.pv (.int .i64 y.hi))})] ?_;repeat1' dsimp only[p6,go_sem]
     first
     |refine a8 ?_ ?_ rfl ?_
     |apply ba
     |apply bc
     |(refine bf (fun hc=>?_) fun hc=>?_<;>first|(cases hc;done)|(try simp only[bn]at hc;try contradiction))
     |skip))
   exact⟨⟨trivial,rfl⟩,_,rfl⟩
 ·rw[if_neg h1];simp only[ep,gk,aO,bB];refine bq (C:=ctx) (Fn.of sG rfl) rfl (by simp) rfl (by simp[aM,dA]) ?_;unfold p6;by_cases h2:(i:Int)<rows.length
  ·repeat' (first
    |((with_reducible show aH _);first|exact True.intro|(simp only[vb,lb,h1,h2];and_intros<;>first|omega|(simp<;>omega)))
    |((with_reducible show aP _);first|exact True.intro|((try dsimp only[go_sem]);(simp[vb,h1,h2]<;>omega)))
    |exact(rfl:some _=_)
    |(
     fail_if_success refine a7 ?_
     refine bJ [(85,{val:=some (.pv (.bool false))}),(92,{val:=some (.pv (.bool true))})] ?_;repeat1' dsimp only[p6,ax,ae,aE,aA,go_sem]
     first
     |refine a8 ?_ ?_ rfl ?_
     |apply ba
     |apply bc
     |(refine bf (fun hc=>?_) fun hc=>?_<;>first|(cases hc;done)|(try simp only[bn]at hc;try contradiction))
     |skip))
   all_goals exact⟨⟨trivial,rfl⟩,_,rfl⟩
  ·repeat' (first
    |((with_reducible show aH _);first|exact True.intro|(simp only[vb,lb,h2];and_intros<;>first|omega|(simp<;>omega)))
    |((with_reducible show aP _);first|exact True.intro|((try dsimp only[go_sem]);(simp[vb,h2]<;>omega)))
    |exact(rfl:some _=_)
    |(
     fail_if_success refine a7 ?_
     refine bJ [(85,{val:=some (.pv (.bool true))})] ?_;repeat1' dsimp only[p6,ax,ae,aE,aA,go_sem]
     first
     |refine a8 ?_ ?_ rfl ?_
     |apply ba
     |apply bc
     |(refine bf (fun hc=>?_) fun hc=>?_<;>first|(cases hc;done)|(try simp only[bn]at hc;try contradiction))
     |skip))
   all_goals exact⟨⟨trivial,rfl⟩,_,rfl⟩
theorem EL (s:Sy) (rows:List Rw) (b:List Rg) (g:Nat) (ch:Bool) (x:bj) (hx:bY x=true) (hs:∀q∈s.graphs,bX b.length q=true) (hg:s.graphs.length≤1000000000) (hr:rows.length≤1000000000) (hrt:∀r∈rows,r.terms.length≤1000000000) (hb:b.length≤1000000000) :
  aJ ctx 78 [.agg (ep s rows (.ref 0 g 0 b.length) ch),.pv (gk x)] [bB b g] (.pv (.tup [.bool (ei s rows b x).2.1,.bool (ei s rows b x).2.2])) [bB (ei s rows b x).1 g]:=by
 have hx':=hx;simp only[bY,aK,Bool.and_eq_true,decide_eq_true_eq]at hx';by_cases hk:x.kind=1
 ·exact yS s rows b g ch x hx hk hs hg hb
 ·exact Db s rows b g ch x hx (by omega) hr hrt hb
end
section
open Rf
theorem yT:ah ctx 77 [.sl 0 []] (.sl 0 []):=by
 refine ar (C:=ctx) (Fn.of Ea rfl) rfl ?_;unfold GV;refine aV ?_;dsimp only[go_sem];try dsimp only[go_sem]
 refine⟨(by simp[vb]<;>omega),(by simp[vb]<;>omega),?_⟩;refine xX 0 rfl ?_ fun ad c=>?_
 ·iterate 6 first
   |refine⟨fun _=>?_,fun h=>by simp at h<;>omega⟩
   |refine⟨by simp[vb]<;>omega,by simp[vb]<;>omega,?_⟩
   |(refine aV ?_;iterate 2 (try dsimp only[go_sem]))
  refine BL 2 CW.nil ?_;refine aV ?_;dsimp only[go_sem];exact⟨(by first|exact True.intro|(simp only[vb,lb];omega)|(simp[vb]<;>omega)),rfl⟩
 ·iterate 7 first
   |refine⟨fun h=>by simp at h<;>omega,fun _=>?_⟩
   |refine⟨by simp[vb]<;>omega,by simp[vb]<;>omega,?_⟩
   |(refine bJ [(7,{mode:=2})] ?_;iterate 2 (try dsimp only[go_sem]))
  refine aV ?_;dsimp only[go_sem];exact⟨(by first|exact True.intro|(simp only[vb,lb];omega)|(simp[vb]<;>omega)),rfl⟩
theorem EM (k:Nat) (cells:List PV) (hk:k≤1000000000) (hc:cells.length=(k+1)*2):aJ ctx 77 [.pv (.sl (k+1) cells)] [] (.ref 0 1 0 (k+1)) [⟨cells.map .pv,1,2,57,false⟩]:=by
 refine bq (C:=ctx) (Fn.of Ea rfl) rfl (by simp) rfl (by simp[aM,dA]) ?_;unfold GV;iterate 9 first
  |refine⟨fun h=>by simp at h<;>omega,fun _=>?_⟩
  |refine⟨by simp[vb]<;>omega,by simp[vb]<;>omega,?_⟩
  |(refine bJ [(7,{mode:=1})] ?_;iterate 2 (try dsimp only[go_sem]))
 refine aV ?_;dsimp only[go_sem];exact⟨⟨trivial,by simp⟩,[],rfl⟩
theorem s6 {cs:List PV} {g z:Nat} {e:TypeId} {f:Bool} (aB:List Nat) (n:Nat):r5 aB n ⟨cs.map .pv,g,z,e,f⟩=⟨cs.map .pv,g,z,e,f⟩:=by
 simp[r5,pI,Function.comp_def]
theorem Gs (b:List Rg) (h0:b≠[]) (hl:b.length≤1000000000) (μ:AM):aJ ctx 77 [.pv (.sl b.length (b.flatMap jM))] μ (.ref μ.length 1 0 b.length) (μ++[bB b 1]):=by
 obtain⟨k,hk⟩:∃k,b.length=k+1:=⟨b.length-1,by have:=List.length_pos_iff.mpr h0;omega⟩
 have f:=du b;unfold bB;rw[hk]at f ⊢;generalize b.flatMap jM=cs at *;have h:=EM k cs (by omega) f;have:=h.frame [] μ (by simp) (by simp) trivial rfl (by simp[dA]) (by simp);simpa [pI,oR,xA,s6]using this
theorem Dc (b:List Rg) (g:Nat) (h0:0<b.length) (hl:b.length≤1000000000):aJ ctx 77 [.ref 0 g 0 b.length] [bB b g] (.ref 1 1 0 b.length) [bB b g,bB b 1]:=by
 have f:=du b;refine bq (C:=ctx) (Fn.of Ea rfl) rfl (by simp) rfl (by simp[aM,dA,bB]) ?_;unfold GV;unfold bB;iterate 7 first
  |refine⟨fun h=>by simp at h<;>omega,fun _=>?_⟩
  |refine⟨by simp[vb,f,h0]<;>omega,by simp[vb,f,h0]<;>omega,?_⟩
  |(refine bJ [(7,{mode:=1})] ?_;iterate 2 (try dsimp only[go_sem]))
 refine bJ [(7,{mode:=1})] ?_;dsimp only[go_sem];try dsimp only[go_sem]
 refine⟨(by first|exact True.intro|(simp only[vb,lb];omega)|(simp only[vb,lb,f,h0];and_intros<;>first|omega|(simp<;>omega))|(simp[vb,f,h0]<;>omega)),(by first|exact True.intro|((try dsimp only[go_sem]);first|(simp[vb,f,h0]<;>omega)|(simp only[vb,and_true,true_implies];(repeat' (first|(with_reducible assumption)|(with_reducible apply And.intro)|intro _|((fail_if_success (with_reducible show(_:Int)≤_));assumption)))<;>first|omega|rfl|(simp only[ab,f,h0];done)|(simp[Nat.mul_one,f,h0]<;>omega)|(simp_all;done)))),?_⟩;refine aV ?_;dsimp only[go_sem]
 exact⟨⟨by simp[vb],by simp⟩,[],by simp[f,List.take_of_length_le]⟩
theorem Dd (b:List Rg) (g:Nat) (h0:0<b.length) (hl:b.length≤1000000000) (μ:AM) (j:Nat) (hj:μ[j]?=some (bB b g)):aJ ctx 77 [.ref j g 0 b.length] μ (.ref μ.length 1 0 b.length) (μ++[bB b 1]):=by
 have hlt:=(List.getElem?_eq_some_iff.mp hj).1;have h:=(Dc b g h0 hl).frame [j] μ (by simp) (by simpa using hlt) ⟨by rw[bB,s6];exact hj,trivial⟩ (by simp[aM,bB,dA]) (by simp[dA,Nat.blt]) (by simp);have h2:μ.set j (bB b g)=μ:=by
  refine List.ext_getElem? fun i=>?_
  by_cases hi:j=i
  ·subst hi;rw[List.getElem?_set_self hlt,hj]
  ·rw[List.getElem?_set_ne hi]
 simp only[bB]at h2 ⊢ h;simpa [pI,oR,xA,s6,h2]using h
set_option maxHeartbeats 4000000 in
theorem De (s:Sy) (rows:List Rw) (ch:Bool) (x:bj) (hx:bY x=true) (hs:∀q∈s.graphs,bX 0 q=true) (hr:rows.length≤1000000000) :
  ah ctx 78 [.agg [ae s.box,ax s.rows,aE s.graphs,aA s.cases,ax rows,.sl 0 [],.bool ch],gk x] (.tup [.bool (ei s rows [] x).2.1,.bool (ei s rows [] x).2.2])∧(ei s rows [] x).1=[]:=by
 simp only[bY,aK,Bool.and_eq_true,decide_eq_true_eq]at hx;obtain⟨⟨⟨k1,k2⟩,x1,x2⟩,x3,x4⟩:=hx;have x5: -1≤x.cell:=by split at x3<;>omega
 obtain⟨i,hi⟩:∃i:Nat,x.index=i:=⟨x.index.toNat,by omega⟩
 obtain⟨kd,ix,cl⟩:=x;simp only at *;subst hi;have hgn:s.graphs=[]:=by
  cases hg:s.graphs with
  |nil=>rfl
  |cons q r =>
   have:=hs q (by rw[hg];simp);simp only[bX,aK,Bool.and_eq_true,decide_eq_true_eq]at this;have h2:=sW this.1.1.1.1.1 this.1.1.1.1.2;omega
 refine⟨?_,List.eq_nil_of_length_eq_zero (by rw[nB];rfl)⟩;unfold ei;rw[hgn];by_cases hk:kd=1
 ·subst hk;rw[if_pos rfl];simp only[List.length_nil];rw[if_neg (by omega)];refine ar (C:=ctx) (Fn.of sG rfl) rfl ?_;unfold p6;repeat' (first
   |((with_reducible show aH _);first|exact True.intro|(simp[vb]<;>omega))
   |((with_reducible show aP _);exact True.intro)
   |exact(rfl:some _=_)
   |(
    fail_if_success refine a7 ?_
    refine aV ?_;repeat1' dsimp only[p6,gk,aO,aE,ae,ax,aA,go_sem]
    first
    |refine a8 ?_ ?_ rfl ?_
    |apply ba
    |apply bc
    |(refine bf (fun hc=>?_) fun hc=>?_<;>first|(cases hc;done)|(try simp only[bn]at hc;try contradiction))
    |skip))
 ·obtain rfl:kd=0:=by omega
  rw[if_neg hk];dsimp only;rw[Int.toNat_natCast];by_cases h1:(i:Int)<rows.length∧cl<([]:List Rg).length
  ·have h3:cl<0:=by simpa using h1.2
   rw[if_pos h1,if_pos h3];have h1':i<rows.length:=by omega
   have e1:=dC j6 rows i zw h1';have f1:=j7 rows;generalize rows.getD i zw=q at *;obtain⟨ts,bd⟩:=q;simp only at *;refine ar (C:=ctx) (Fn.of sG rfl) rfl ?_;unfold p6;obtain⟨h1a,h1b⟩:=h1;cases ts with
   |nil =>
    repeat' (first
     |((with_reducible show aH _);first|exact True.intro|(simp only[vb,lb,e1,f1,h1a,h1',h3,eZ,au];and_intros<;>first|omega|(simp<;>omega)))
     |((with_reducible show aP _);first|exact True.intro|((try dsimp only[go_sem]);(simp[vb,e1,f1,h1a,h1',h3,eZ,au]<;>omega)))
     |exact(rfl:some _=_)
     |(
      fail_if_success refine a7 ?_
      refine bJ [(99,{val:=some (.pv (.agg [.sl 0 [],.int .i64 bd]))}),(102,{val:=some (.pv (.bool true))})] ?_;repeat1' dsimp only[p6,gk,aO,ax,ae,aE,aA,au,eZ,go_sem]
      first
      |refine a8 ?_ ?_ rfl ?_
      |apply ba
      |apply bc
      |(refine bf (fun hc=>?_) fun hc=>?_<;>first|(cases hc;done)|(exfalso;(simp at hc<;>omega))|(try simp only[bn]at hc;try contradiction))
      |skip))
    all_goals simp
   |cons t0 tr =>
    repeat' (first
     |((with_reducible show aH _);first|exact True.intro|(simp only[vb,lb,e1,f1,h1a,h1',h3,eZ,au];and_intros<;>first|omega|(simp<;>omega)))
     |((with_reducible show aP _);first|exact True.intro|((try dsimp only[go_sem]);(simp[vb,e1,f1,h1a,h1',h3,eZ,au]<;>omega)))
     |exact(rfl:some _=_)
     |(
      fail_if_success refine a7 ?_
      refine bJ [(99,{val:=some (.pv (.agg [.sl (tr.length+1) ((t0::tr).flatMap kG),.int .i64 bd]))}),(102,{val:=some (.pv (.bool true))}),(106,{val:=some (.pv (.bool false))})] ?_;repeat1' dsimp only[p6,gk,aO,ax,ae,aE,aA,au,eZ,go_sem]
      first
      |refine a8 ?_ ?_ rfl ?_
      |apply ba
      |apply bc
      |(refine bf (fun hc=>?_) fun hc=>?_<;>first|(cases hc;done)|(exfalso;(simp at hc<;>omega))|(try simp only[bn]at hc;try contradiction))
      |skip))
    all_goals simp
  ·rw[if_neg h1];refine ar (C:=ctx) (Fn.of sG rfl) rfl ?_;unfold p6;by_cases h2:(i:Int)<rows.length
   ·have h3:¬cl<0:=fun h=>h1 ⟨h2,by simpa using h⟩
    repeat' (first
     |((with_reducible show aH _);first|exact True.intro|(simp only[vb,lb,h2,h3];and_intros<;>first|omega|(simp<;>omega)))
     |((with_reducible show aP _);first|exact True.intro|((try dsimp only[go_sem]);(simp[vb,h2,h3]<;>omega)))
     |exact(rfl:some _=_)
     |(
      fail_if_success refine a7 ?_
      refine bJ [(85,{val:=some (.pv (.bool false))}),(92,{val:=some (.pv (.bool true))})] ?_;repeat1' dsimp only[p6,gk,aO,ax,ae,aE,aA,go_sem]
      first
      |refine a8 ?_ ?_ rfl ?_
      |apply ba
      |apply bc
      |(refine bf (fun hc=>?_) fun hc=>?_<;>first|(cases hc;done)|(try simp only[bn]at hc;try contradiction))
      |skip))
   ·repeat' (first
     |((with_reducible show aH _);first|exact True.intro|(simp only[vb,lb,h2];and_intros<;>first|omega|(simp<;>omega)))
     |((with_reducible show aP _);first|exact True.intro|((try dsimp only[go_sem]);(simp[vb,h2]<;>omega)))
     |exact(rfl:some _=_)
     |(
      fail_if_success refine a7 ?_
      refine bJ [(85,{val:=some (.pv (.bool true))})] ?_;repeat1' dsimp only[p6,gk,aO,ax,ae,aE,aA,go_sem]
      first
      |refine a8 ?_ ?_ rfl ?_
      |apply ba
      |apply bc
      |(refine bf (fun hc=>?_) fun hc=>?_<;>first|(cases hc;done)|(try simp only[bn]at hc;try contradiction))
      |skip))
end
section
open Rf
def Fz:Nat→Bool:=fun d=>Nat.beq d 59||Nat.beq d 62
def EN:ay:=(⟨_,by conv=>(lhs;reduce;try simp only[eA,Int.cast_ofNat_Int,Int.reduceNegSucc,UInt8.reduceOfNat])⟩:{x // codeOf Tryz.prog 47 Fz=some x}).1
theorem Df:bK Tryz.prog 47 Fz=some (EN,[.t 4],144,true):=by kernel_rfl
def eS (s:Sy) (rows:List Rw) (bx:AV) (ch:Bool):fw:=⟨ep s rows bx ch,0,7,73,false⟩
theorem EO (s:Sy) (rows:List Rw) (b:List Rg) (g:Nat) (ch:Bool) (x:bj) (hx:bY x=true) (hs:∀q∈s.graphs,bX b.length q=true) (hg:s.graphs.length≤1000000000) (hr:rows.length≤1000000000) (hrt:∀r∈rows,r.terms.length≤1000000000) (hb:b.length≤1000000000)
  (μ:AM) (j:Nat) (hj:μ[j]?=some (bB b g)) :
  aJ ctx 78 [.agg (ep s rows (.ref j g 0 b.length) ch),.pv (gk x)] μ (.pv (.tup [.bool (ei s rows b x).2.1,.bool (ei s rows b x).2.2])) (μ.set j (bB (ei s rows b x).1 g)):=by
 have hlt:=(List.getElem?_eq_some_iff.mp hj).1;have h:=(EL s rows b g ch x hx hs hg hr hrt hb).frame [j] μ (by simp) (by simpa using hlt) ⟨by rw[bB,s6];exact hj,trivial⟩ (by simp[aM,bB,dA]) (by simp[dA,Nat.blt,ep]) (by simp);generalize ei s rows b x=q at *;simp only[bB]at h ⊢;simpa [pI,oR,xA,s6,ep]using h
structure zU (s:Sy):Prop where
 g:s.graphs.length≤1000000000
 c:s.cases.length≤1000000
 l:∀l∈s.cases,l.length≤1000∧∀r∈l,r.terms.length≤1000000000
def rj (ch:Bool):Nat:=bif ch then 1001000 else 1000000
set_option maxHeartbeats 16000000 in
theorem yU (s:Sy) (hs:zU s):∀(t:Tree),gp t=true→wt t≤1000000000→∀(rows:List Rw) (b:List Rg) (ch:Bool),rows.length≤rj ch→(∀r∈rows,r.terms.length≤1000000000)→b.length≤1000000000→(∀q∈s.graphs,bX b.length q=true) →
  ah ctx 47 [.agg [ae s.box,ax s.rows,aE s.graphs,aA s.cases,ax rows,ae b,.bool ch],aI t] (.bool (b8 s t rows b ch)):=by
 refine Tree.ind fun kd st c a l ih hf hw rows b ch hr hrt hb hgo=>?_
 rw[dI]at hw;have hl:=kR l;rw[dU]at hf;simp only[Bool.and_eq_true]at hf;obtain⟨⟨hf1,hf2⟩,hf3⟩:=hf;have hE:=w7 b hb;have hr':rows.length≤1001000:=by unfold rj at hr;cases ch<;>simp at hr<;>omega
 rw[oW];have f1:=kr st;have f2:=du b;generalize cX b=eb at *;cases eb with
 |true =>
  simp only[if_true];unfold ae at hE;refine ar (C:=ctx) (Fn.of Df rfl) rfl ?_;unfold EN;repeat' (first
   |((with_reducible show aH _);first|exact True.intro|(simp only[vb,lb,hE];and_intros<;>first|omega|(simp<;>omega)))
   |((with_reducible show aP _);first|exact True.intro|((try dsimp only[go_sem]);(simp[vb,hE]<;>omega)))
   |exact(rfl:some _=_)
   |(
    fail_if_success refine a7 ?_
    refine iF [(72,fun _=>some (.bool true))] ?_;repeat1' dsimp only[pZ,aI,Tree.kind,Tree.steps,Tree.cell,Tree.pos,Tree.kids,ai,az,ae,ax,aE,aA,go_sem]
    first
    |refine a8 ?_ ?_ rfl ?_
    |apply ba
    |apply bc
    |(refine bf (fun hc=>?_) fun hc=>?_<;>first|(cases hc;done)|(try simp only[bn]at hc;try contradiction))
    |skip))
 |false =>
  simp only[Bool.false_eq_true,if_false];by_cases h0:b=[]
  ·subst h0;have hcn:=yT;have hE:ah ctx 72 [.sl 0 []] (.bool false):=hE;refine ar (C:=ctx) (Fn.of Df rfl) rfl ?_;unfold EN;repeat' (first
    |((with_reducible show aH _);first|exact True.intro|(simp only[vb,lb,hE,hcn];and_intros<;>first|omega|(simp<;>omega)))
    |((with_reducible show aP _);first|exact True.intro|((try dsimp only[go_sem]);(simp[vb,hE,hcn]<;>omega)))
    |exact(rfl:some _=_)
    |(
     fail_if_success refine a7 ?_
     refine iF [(72,fun _=>some (.bool false)),(77,fun _=>some (.sl 0 []))] ?_;repeat1' dsimp only[pZ,aI,eS,ep,af,Tree.kind,Tree.steps,Tree.cell,Tree.pos,Tree.kids,ai,az,ae,ax,aE,aA,go_sem]
     first
     |refine a8 ?_ ?_ rfl ?_
     |apply ba
     |apply bc
     |(refine bf (fun hc=>?_) fun hc=>?_<;>first|(cases hc;done)|(try simp only[bn]at hc;try contradiction))
     |skip))
   refine dY (σ:=Nat) (fun q=>q≤st.length∧fp s rows (st.drop q) []=fp s rows st [])
    (fun q=>[(2,.ptr 0 0 0),(3,.ptr 1 0 0),(23,.pv (ai st)),(24,.pv (.int .i64 st.length)),(25,.pv (.int .i64 q))])
    (fun q=>[eS s rows (.pv (.sl 0 [])) ch,af (.node kd st c a l)]) (fun q=>st.length-q) 0 ⟨Nat.zero_le _,rfl⟩ (by (repeat' (first|exact trivial|refine And.intro (by first|rfl|(simp[get,Nat.beq];done)|(simp[get,Nat.beq];omega)|(dsimp only[get];congr 1<;>first|rfl|omega|(simp;done)|(simp;omega))) ?_))) ⟨[],rfl⟩ (fun _ _=>⟨Nat.zero_le _,rfl,by simp[aM,eS,ep,af,dA]⟩) fun k hq=>?_
   obtain⟨p1,p3⟩:=hq;by_cases hlt:k<st.length
   ·have e:=dC ek st k zs hlt;have hx:=List.all_eq_true.mp hf1 _ (aT (d:=zs) hlt);rw[fM st k zs hlt,fp]at p3;generalize st.getD k zs=x at *;obtain⟨hst,hb2⟩:=De s rows ch x hx hgo (by omega);generalize ei s rows [] x=q at *;obtain⟨b2,pp,cc⟩:=q;simp only at hst hb2 p3;subst hb2;unfold gk ae ax aE aA at hst;simp only[aO]at hst;rw[←p3];cases cc with
    |true =>
     simp only[if_true];repeat' (first
      |((with_reducible show aH _);first|exact True.intro|(simp only[vb,lb,e,f1,hlt,aO,hst];and_intros<;>first|omega|(simp<;>omega)))
      |((with_reducible show aP _);first|exact True.intro|((try dsimp only[go_sem]);(simp[vb,e,f1,hlt,aO,hst]<;>omega)))
      |exact(rfl:some _=_)
      |(
       fail_if_success refine a7 ?_
       refine eW [(78,fun _=>some (.tup [.bool pp,.bool true]))] [(28,{val:=some (.pv (.agg [.int .i64 x.kind,.int .i64 x.index,.int .i64 x.cell]))})] ?_;repeat1' dsimp only[pZ,eS,ep,af,Tree.kind,Tree.steps,Tree.cell,Tree.pos,Tree.kids,ai,az,ae,ax,aE,aA,go_sem]
       first
       |refine a8 ?_ ?_ rfl ?_
       |apply ba
       |apply bc
       |(refine bf (fun hc=>?_) fun hc=>?_<;>first|(cases hc;done)|(exfalso;(simp at hc<;>omega))|(try simp only[bn]at hc;try contradiction))
       |skip))
    |false =>
     simp only[Bool.false_eq_true,if_false];cases pp with
     |false =>
      simp only[Bool.false_eq_true,if_false];repeat' (first
       |((with_reducible show aH _);first|exact True.intro|(simp only[vb,lb,e,f1,hlt,aO,hst];and_intros<;>first|omega|(simp<;>omega)))
       |((with_reducible show aP _);first|exact True.intro|((try dsimp only[go_sem]);(simp[vb,e,f1,hlt,aO,hst]<;>omega)))
       |exact(rfl:some _=_)
       |(
        fail_if_success refine a7 ?_
        refine eW [(78,fun _=>some (.tup [.bool false,.bool false]))] [(28,{val:=some (.pv (.agg [.int .i64 x.kind,.int .i64 x.index,.int .i64 x.cell]))})] ?_;repeat1' dsimp only[pZ,eS,ep,af,Tree.kind,Tree.steps,Tree.cell,Tree.pos,Tree.kids,ai,az,ae,ax,aE,aA,go_sem]
        first
        |refine a8 ?_ ?_ rfl ?_
        |apply ba
        |apply bc
        |(refine bf (fun hc=>?_) fun hc=>?_<;>first|(cases hc;done)|(exfalso;(simp at hc<;>omega))|(try simp only[bn]at hc;try contradiction))
        |skip))
     |true =>
      simp only[if_true];repeat' (first
       |((with_reducible show aH _);first|exact True.intro|(simp only[vb,lb,e,f1,hlt,aO,hst];and_intros<;>first|omega|(simp<;>omega)))
       |((with_reducible show aP _);first|exact True.intro|((try dsimp only[go_sem]);(simp[vb,e,f1,hlt,aO,hst]<;>omega)))
       |exact(rfl:some _=_)
       |(
        fail_if_success refine a7 ?_
        refine eW [(78,fun _=>some (.tup [.bool true,.bool false]))] [(28,{val:=some (.pv (.agg [.int .i64 x.kind,.int .i64 x.index,.int .i64 x.cell]))})] ?_;repeat1' dsimp only[pZ,eS,ep,af,Tree.kind,Tree.steps,Tree.cell,Tree.pos,Tree.kids,ai,az,ae,ax,aE,aA,go_sem]
        first
        |refine a8 ?_ ?_ rfl ?_
        |apply ba
        |apply bc
        |(refine bf (fun hc=>?_) fun hc=>?_<;>first|(cases hc;done)|(exfalso;(simp at hc<;>omega))|(try simp only[bn]at hc;try contradiction))
        |skip))
      exact⟨k+1,by show st.length-(k+1)<st.length-k;omega,⟨by show k+1≤_;omega,rfl⟩,by (repeat' (first|exact trivial|refine And.intro (by first|rfl|(simp[get,Nat.beq];done)|(simp[get,Nat.beq];omega)|(dsimp only[get];congr 1<;>first|rfl|omega|(simp;done)|(simp;omega))) ?_)),_,rfl⟩
   ·obtain rfl:k=st.length:=by omega
    rw[List.drop_length,fp]at p3;rw[←p3];simp only;clear p3 hE hf1 hcn;have f3:=kq l;by_cases hk1:kd=1
    ·subst hk1;simp[gm,aK]at hf2;obtain⟨⟨t1,t2,t3⟩,t4,t5⟩:=hf2;unfold sB;rw[if_pos rfl,if_neg (by simp;omega)];repeat' (first
      |((with_reducible show aH _);first|exact True.intro|(simp only[vb,lb,t2];and_intros<;>first|omega|(simp<;>omega)))
      |((with_reducible show aP _);exact True.intro)
      |exact(rfl:some _=_)
      |(
       fail_if_success refine a7 ?_
       refine aV ?_;repeat1' dsimp only[pZ,eS,ep,af,Tree.kind,Tree.steps,Tree.cell,Tree.pos,Tree.kids,ai,az,ae,ax,aE,aA,go_sem]
       first
       |refine a8 ?_ ?_ rfl ?_
       |apply ba
       |apply bc
       |(refine bf (fun hc=>?_) fun hc=>?_<;>first|(cases hc;done)|(exfalso;(simp at hc<;>omega))|(try simp only[bn]at hc;try contradiction))
       |skip))
    ·by_cases hk2:kd=2
     ·subst hk2;simp[gm]at hf2;obtain⟨⟨⟨t1,t2⟩,rfl⟩,rfl⟩:=hf2;have hcc:=hs.c;unfold sB;rw[if_neg (by decide),if_pos rfl,List.length_map];cases ch with
      |true =>
       repeat' (first
        |((with_reducible show aH _);first|exact True.intro|(simp only[vb,lb,hlt];and_intros<;>first|omega|(simp<;>omega)))
        |((with_reducible show aP _);first|exact True.intro|((try dsimp only[go_sem]);(simp[vb,hlt]<;>omega)))
        |exact(rfl:some _=_)
        |(
         fail_if_success refine a7 ?_
         refine bJ [(107,{val:=some (.pv (.bool true))})] ?_;repeat1' dsimp only[pZ,eS,ep,af,Tree.kind,Tree.steps,Tree.cell,Tree.pos,Tree.kids,ai,az,ae,ax,aE,aA,go_sem]
         first
         |refine a8 ?_ ?_ rfl ?_
         |apply ba
         |apply bc
         |(refine bf (fun hc=>?_) fun hc=>?_<;>first|(cases hc;done)|(exfalso;(simp at hc<;>omega))|(try simp only[bn]at hc;try contradiction))
         |skip))
      |false =>
       by_cases hlc:l.length=s.cases.length
       ·rw[decide_eq_true hlc];simp only[Bool.not_false,Bool.true_and];generalize hres:od rows [] (l.map (b8 s)) s.cases=res;repeat' (first
         |((with_reducible show aH _);first|exact True.intro|(simp only[vb,lb,hlt,hlc];and_intros<;>first|omega|(simp<;>omega)))
         |((with_reducible show aP _);first|exact True.intro|((try dsimp only[go_sem]);(simp[vb,hlt,hlc]<;>omega)))
         |exact(rfl:some _=_)
         |(
          fail_if_success refine a7 ?_
          refine bJ [(107,{val:=some (.pv (.bool false))}),(116,{val:=some (.pv (.bool false))})] ?_;repeat1' dsimp only[pZ,eS,ep,af,Tree.kind,Tree.steps,Tree.cell,Tree.pos,Tree.kids,ai,az,ae,ax,aE,aA,go_sem]
          first
          |refine a8 ?_ ?_ rfl ?_
          |apply ba
          |apply bc
          |(refine bf (fun hc=>?_) fun hc=>?_<;>first|(cases hc;done)|(exfalso;(simp at hc<;>omega))|(try simp only[bn]at hc;try contradiction))
          |skip))
        refine dY (σ:=Nat) (fun k=>k≤l.length∧od rows [] ((l.map (b8 s)).drop k) (s.cases.drop k)=res)
         (fun k=>[(2,.ptr 0 0 0),(3,.ptr 1 0 0),(119,.pv (az l)),(120,.pv (.int .i64 l.length)),(121,.pv (.int .i64 k))])
         (fun k=>[eS s rows (.pv (.sl 0 [])) false,af (.node 2 st 0 0 l)]) (fun k=>l.length-k) 0 ⟨Nat.zero_le _,hres⟩ (by (repeat' (first|exact trivial|refine And.intro (by first|rfl|(simp[get,Nat.beq];done)|(simp[get,Nat.beq];omega)|(dsimp only[get];congr 1<;>first|rfl|omega|(simp;done)|(simp;omega))) ?_))) ⟨[],rfl⟩ (fun _ _=>⟨Nat.zero_le _,rfl,by simp[aM,eS,ep,af,dA]⟩) fun k hq=>?_
        obtain⟨q1,q2⟩:=hq;by_cases hlk:k<l.length
        ·have hkc:k<s.cases.length:=by omega
         have e:=kp l k hlk;have e2:=ma s.cases k hkc;have e3:=kU s.cases;have hcl:=hs.l _ (aT (d:=([]:List Rw)) hkc);have hmem:=aT (d:=zt) hlk;have hwk:=pQ hmem;have hih:=ih _ hmem (List.all_eq_true.mp hf3 _ hmem) (by omega) (rows++s.cases.getD k []) [] true (by rw[List.length_append];unfold rj at hr ⊢;simp only[cond_true,cond_false]at hr ⊢;omega) (fun r hr=>by
          rcases List.mem_append.mp hr with h|h
          ·exact hrt r h
          ·exact hcl.2 r h) hb hgo
         have hcon:=ur [rows,s.cases.getD k []] (by simp) (by simp only[j8,List.map_cons,List.map_nil,List.sum_cons,List.sum_nil];omega);rw[show[rows,s.cases.getD k []].flatten=rows++s.cases.getD k [] by simp]at hcon;rw[fM _ k (b8 s zt) (by simpa using hlk),fM s.cases k [] hkc,od]at q2;rw[show(l.map (b8 s)).getD k (b8 s zt)=b8 s (l.getD k zt) by simp[List.getD]]at q2;generalize hrest:od rows [] ((l.map (b8 s)).drop (k+1)) (s.cases.drop (k+1))=rest at *;generalize s.cases.getD k []=cs at *;generalize l.getD k zt=x at *
         generalize b8 s x (rows++cs) [] true=qx at *;generalize rows++cs=rows2 at *;obtain⟨a0,a1,a2,a3,a4⟩:=x;simp only[aI,Tree.kind,Tree.steps,Tree.cell,Tree.pos,Tree.kids]at hih e;clear ih hres;have hcon:ah ctx 80 [.sl 2 [.sl rows.length (rows.flatMap eZ),.sl cs.length (cs.flatMap eZ)]] (.sl rows2.length (rows2.flatMap eZ)):=hcon;unfold ae ax aE aA az ai at hih;repeat' (first
          |((with_reducible show aH _);first|exact True.intro|(simp only[vb,lb,e,f3,hlk,e2,e3,hkc,hcon,az,ai,hih];and_intros<;>first|omega|(simp<;>omega)))
          |((with_reducible show aP _);first|exact True.intro|((try dsimp only[go_sem]);first|(simp[vb,e,f3,hlk,e2,e3,hkc,hcon,az,ai,hih]<;>omega)|(simp only[vb,and_true,true_implies];(repeat' (first|(with_reducible assumption)|(with_reducible apply And.intro)|intro _|((fail_if_success (with_reducible show(_:Int)≤_));assumption))))))
          |exact(rfl:some _=_)
          |(
           fail_if_success refine a7 ?_
           refine eW [(80,fun _=>some (.sl rows2.length (rows2.flatMap eZ))),(47,fun _=>some (.bool qx))] [(125,{val:=some (.pv (.agg [.int .i64 a0,.sl a1.length (a1.flatMap aO),.int .i64 a2,.int .i64 a3,.sl a4.length (a4.flatMap iP)]))}),(134,{val:=some (.pv (.sl cs.length (cs.flatMap eZ)))})] ?_;repeat1' dsimp only[pZ,eS,ep,af,Tree.kind,Tree.steps,Tree.cell,Tree.pos,Tree.kids,ai,az,ae,ax,aE,aA,go_sem]
           first
           |refine a8 ?_ ?_ rfl ?_
           |apply ba
           |apply bc
           |(refine bf (fun hc=>?_) fun hc=>?_<;>first|(cases hc;done)|(exfalso;(simp at hc<;>omega))|(try simp only[bn]at hc;try contradiction))
           |skip))
         ·rw[←q2,show qx=false by simpa using hc];rfl
         ·exact⟨k+1,by show l.length-(k+1)<l.length-k;omega,⟨by show k+1≤_;omega,by rw[←q2,show qx=true by simpa using hc];simpa using hrest⟩,by (repeat' (first|exact trivial|refine And.intro (by first|rfl|(simp[get,Nat.beq];done)|(simp[get,Nat.beq];omega)|(dsimp only[get];congr 1<;>first|rfl|omega|(simp;done)|(simp;omega))) ?_)),_,rfl⟩
        ·obtain rfl:k=l.length:=by omega
         rw[List.drop_of_length_le (by simp),od]at q2;subst q2;repeat' (first
          |((with_reducible show aH _);exact True.intro)
          |((with_reducible show aP _);exact True.intro)
          |exact(rfl:some _=_)
          |(
           fail_if_success refine a7 ?_
           refine aV ?_;repeat1' dsimp only[pZ,eS,ep,af,Tree.kind,Tree.steps,Tree.cell,Tree.pos,Tree.kids,ai,az,ae,ax,aE,aA,go_sem]
           first
           |refine a8 ?_ ?_ rfl ?_
           |apply ba
           |apply bc
           |(refine bf (fun hc=>?_) fun hc=>?_<;>first|(cases hc;done)|(exfalso;(simp at hc<;>omega))|(try simp only[bn]at hc;try contradiction))
           |skip))
         all_goals (intro _ _ _ _ h;cases h)
       ·rw[decide_eq_false hlc];have hlc':¬(l.length:Int)=(s.cases.length:Int):=by omega
        repeat' (first
         |((with_reducible show aH _);first|exact True.intro|(simp only[vb,lb,hlt,hlc'];and_intros<;>first|omega|(simp<;>omega)))
         |((with_reducible show aP _);first|exact True.intro|((try dsimp only[go_sem]);(simp[vb,hlt,hlc']<;>omega)))
         |exact(rfl:some _=_)
         |(
          fail_if_success refine a7 ?_
          refine bJ [(107,{val:=some (.pv (.bool false))}),(116,{val:=some (.pv (.bool true))})] ?_;repeat1' dsimp only[pZ,eS,ep,af,Tree.kind,Tree.steps,Tree.cell,Tree.pos,Tree.kids,ai,az,ae,ax,aE,aA,go_sem]
          first
          |refine a8 ?_ ?_ rfl ?_
          |apply ba
          |apply bc
          |(refine bf (fun hc=>?_) fun hc=>?_<;>first|(cases hc;done)|(exfalso;(simp at hc<;>omega))|(try simp only[bn]at hc;try contradiction))
          |skip))
     ·rw[show sB s kd c a (l.map (b8 s)) rows [] ch=false by rw[sB,if_neg hk1,if_neg hk2]];repeat' (first
       |((with_reducible show aH _);first|exact True.intro|(simp only[vb,lb,hk1,hk2];and_intros<;>first|omega|(simp<;>omega)))
       |((with_reducible show aP _);exact True.intro)
       |exact(rfl:some _=_)
       |(
        fail_if_success refine a7 ?_
        refine aV ?_;repeat1' dsimp only[pZ,eS,ep,af,Tree.kind,Tree.steps,Tree.cell,Tree.pos,Tree.kids,ai,az,ae,ax,aE,aA,go_sem]
        first
        |refine a8 ?_ ?_ rfl ?_
        |apply ba
        |apply bc
        |(refine bf (fun hc=>?_) fun hc=>?_<;>first|(cases hc;done)|(exfalso;(simp at hc<;>omega))|(try simp only[bn]at hc;try contradiction))
        |skip))
  ·have hpos:0<b.length:=List.length_pos_iff.mpr h0;have hcln:=Gs b h0 hb [⟨[.pv (ae s.box),.pv (ax s.rows),.pv (aE s.graphs),.pv (aA s.cases),.pv (ax rows),.pv (ae b),.pv (.bool ch)],0,7,73,false⟩,af (.node kd st c a l)];unfold ae at hE;unfold ae ax aE aA af bB at hcln;simp only[Tree.kind,Tree.steps,Tree.cell,Tree.pos,Tree.kids,ai,az,List.length_cons,List.length_nil,List.cons_append,List.nil_append,Nat.zero_add]at hcln;refine ar (C:=ctx) (Fn.of Df rfl) rfl ?_;unfold EN;repeat' (first
    |((with_reducible show aH _);first|exact True.intro|(simp only[vb,lb,hE,hcln];and_intros<;>first|omega|(simp<;>omega)))
    |((with_reducible show aP _);first|exact True.intro|((try dsimp only[go_sem]);(simp[vb,hE,hcln]<;>omega)))
    |exact(rfl:some _=_)
    |(
     fail_if_success refine a7 ?_
     refine eW [(72,fun _=>some (.bool false))] [(20,{val:=some (.ref 2 1 0 b.length),mem:=some [⟨[.pv (ae s.box),.pv (ax s.rows),.pv (aE s.graphs),.pv (aA s.cases),.pv (ax rows),.pv (ae b),.pv (.bool ch)],0,7,73,false⟩,af (.node kd st c a l),bB b 1]})] ?_;repeat1' dsimp only[pZ,aI,af,bB,Tree.kind,Tree.steps,Tree.cell,Tree.pos,Tree.kids,ai,az,ae,ax,aE,aA,go_sem]
     first
     |refine a8 ?_ ?_ rfl ?_
     |apply ba
     |apply bc
     |(refine bf (fun hc=>?_) fun hc=>?_<;>first|(cases hc;done)|(try simp only[bn]at hc;try contradiction))
     |skip))
   refine dY (σ:=Nat×List Rg) (fun q=>q.1≤st.length∧q.2.length=b.length∧fp s rows (st.drop q.1) q.2=fp s rows st b)
    (fun q=>[(2,.ptr 0 0 0),(3,.ptr 1 0 0),(23,.pv (ai st)),(24,.pv (.int .i64 st.length)),(25,.pv (.int .i64 q.1))])
    (fun q=>[eS s rows (.ref 2 1 0 b.length) ch,af (.node kd st c a l),bB q.2 1]) (fun q=>st.length-q.1) (0,b) ⟨Nat.zero_le _,rfl,rfl⟩ (by (repeat' (first|exact trivial|refine And.intro (by first|rfl|(simp[get,Nat.beq];done)|(simp[get,Nat.beq];omega)|(dsimp only[get];congr 1<;>first|rfl|omega|(simp;done)|(simp;omega))) ?_))) ⟨[],rfl⟩ (fun _ _=>⟨Nat.zero_le _,rfl,by simp[aM,eS,ep,af,bB,dA,Nat.blt]⟩) fun q hq=>?_
   obtain⟨k,bb⟩:=q;obtain⟨p1,p2,p3⟩:=hq;simp only at p1 p2 p3 ⊢;by_cases hlt:k<st.length
   ·have e:=dC ek st k zs hlt;have hx:=List.all_eq_true.mp hf1 _ (aT (d:=zs) hlt);rw[fM st k zs hlt,fp]at p3;generalize st.getD k zs=x at *;have hst:=EO s rows bb 1 ch x hx (by rw[p2];exact hgo) hs.g (by omega) hrt (by omega) [eS s rows (.ref 2 1 0 b.length) ch,af (.node kd st c a l),bB bb 1,⟨[.pv (.int .i64 x.kind),.pv (.int .i64 x.index),.pv (.int .i64 x.cell)],0,3,66,false⟩] 2 rfl;have hln:=nB s rows bb x;generalize ei s rows bb x=q at *;obtain⟨b2,pp,cc⟩:=q;simp only at hst hln p3;rw[p2]at hst hln
    rw[show([eS s rows (.ref 2 1 0 b.length) ch,af (.node kd st c a l),bB bb 1,⟨[.pv (.int .i64 x.kind),.pv (.int .i64 x.index),.pv (.int .i64 x.cell)],0,3,66,false⟩]:AM).set 2 (bB b2 1)=[eS s rows (.ref 2 1 0 b.length) ch,af (.node kd st c a l),bB b2 1,⟨[.pv (.int .i64 x.kind),.pv (.int .i64 x.index),.pv (.int .i64 x.cell)],0,3,66,false⟩] from rfl]at hst;unfold eS ep af bB gk ae ax aE aA at hst;simp only[Tree.kind,Tree.steps,Tree.cell,Tree.pos,Tree.kids,ai,az,aO]at hst;rw[←p3];clear p3 hcln;cases cc with
    |true =>
     simp only[if_true];repeat' (first
      |((with_reducible show aH _);first|exact True.intro|(simp only[vb,lb,e,f1,hlt,aO,hst];and_intros<;>first|omega|(simp<;>omega)))
      |((with_reducible show aP _);first|exact True.intro|((try dsimp only[go_sem]);(simp[vb,e,f1,hlt,aO,hst]<;>omega)))
      |exact(rfl:some _=_)
      |(
       fail_if_success refine a7 ?_
       refine bJ [(28,{val:=some (.pv (.agg [.int .i64 x.kind,.int .i64 x.index,.int .i64 x.cell]))}),(32,{val:=some (.pv (.tup [.bool pp,.bool true])),mem:=some [eS s rows (.ref 2 1 0 b.length) ch,af (.node kd st c a l),bB b2 1,⟨[.pv (.int .i64 x.kind),.pv (.int .i64 x.index),.pv (.int .i64 x.cell)],0,3,66,false⟩]})] ?_;repeat1' dsimp only[pZ,eS,ep,af,bB,Tree.kind,Tree.steps,Tree.cell,Tree.pos,Tree.kids,ai,az,ae,ax,aE,aA,go_sem]
       first
       |refine a8 ?_ ?_ rfl ?_
       |apply ba
       |apply bc
       |(refine bf (fun hc=>?_) fun hc=>?_<;>first|(cases hc;done)|(exfalso;(simp at hc<;>omega))|(try simp only[bn]at hc;try contradiction))
       |skip))
    |false =>
     simp only[Bool.false_eq_true,if_false];cases pp with
     |false =>
      simp only[Bool.false_eq_true,if_false];repeat' (first
       |((with_reducible show aH _);first|exact True.intro|(simp only[vb,lb,e,f1,hlt,aO,hst];and_intros<;>first|omega|(simp<;>omega)))
       |((with_reducible show aP _);first|exact True.intro|((try dsimp only[go_sem]);(simp[vb,e,f1,hlt,aO,hst]<;>omega)))
       |exact(rfl:some _=_)
       |(
        fail_if_success refine a7 ?_
        refine bJ [(28,{val:=some (.pv (.agg [.int .i64 x.kind,.int .i64 x.index,.int .i64 x.cell]))}),(32,{val:=some (.pv (.tup [.bool false,.bool false])),mem:=some [eS s rows (.ref 2 1 0 b.length) ch,af (.node kd st c a l),bB b2 1,⟨[.pv (.int .i64 x.kind),.pv (.int .i64 x.index),.pv (.int .i64 x.cell)],0,3,66,false⟩]})] ?_;repeat1' dsimp only[pZ,eS,ep,af,bB,Tree.kind,Tree.steps,Tree.cell,Tree.pos,Tree.kids,ai,az,ae,ax,aE,aA,go_sem]
        first
        |refine a8 ?_ ?_ rfl ?_
        |apply ba
        |apply bc
        |(refine bf (fun hc=>?_) fun hc=>?_<;>first|(cases hc;done)|(exfalso;(simp at hc<;>omega))|(try simp only[bn]at hc;try contradiction))
        |skip))
     |true =>
      simp only[if_true];repeat' (first
       |((with_reducible show aH _);first|exact True.intro|(simp only[vb,lb,e,f1,hlt,aO,hst];and_intros<;>first|omega|(simp<;>omega)))
       |((with_reducible show aP _);first|exact True.intro|((try dsimp only[go_sem]);(simp[vb,e,f1,hlt,aO,hst]<;>omega)))
       |exact(rfl:some _=_)
       |(
        fail_if_success refine a7 ?_
        refine bJ [(28,{val:=some (.pv (.agg [.int .i64 x.kind,.int .i64 x.index,.int .i64 x.cell]))}),(32,{val:=some (.pv (.tup [.bool true,.bool false])),mem:=some [eS s rows (.ref 2 1 0 b.length) ch,af (.node kd st c a l),bB b2 1,⟨[.pv (.int .i64 x.kind),.pv (.int .i64 x.index),.pv (.int .i64 x.cell)],0,3,66,false⟩]})] ?_;repeat1' dsimp only[pZ,eS,ep,af,bB,Tree.kind,Tree.steps,Tree.cell,Tree.pos,Tree.kids,ai,az,ae,ax,aE,aA,go_sem]
        first
        |refine a8 ?_ ?_ rfl ?_
        |apply ba
        |apply bc
        |(refine bf (fun hc=>?_) fun hc=>?_<;>first|(cases hc;done)|(exfalso;(simp at hc<;>omega))|(try simp only[bn]at hc;try contradiction))
        |skip))
      exact⟨(k+1,b2),by show st.length-(k+1)<st.length-k;omega,⟨by show k+1≤_;omega,hln,rfl⟩,by (repeat' (first|exact trivial|refine And.intro (by first|rfl|(simp[get,Nat.beq];done)|(simp[get,Nat.beq];omega)|(dsimp only[get];congr 1<;>first|rfl|omega|(simp;done)|(simp;omega))) ?_)),_,rfl⟩
   ·obtain rfl:k=st.length:=by omega
    rw[List.drop_length,fp]at p3;rw[←p3];simp only;clear p3 hcln hE hf1;have f3:=kq l;rw[←p2]at hb hgo hpos ⊢;have f4:=du bb;clear f2;by_cases hk1:kd=1
    ·subst hk1;simp[gm,aK]at hf2;obtain⟨⟨t1,t2,t3⟩,t4,t5⟩:=hf2;obtain⟨cn,rfl⟩:∃n:Nat,c=n:=⟨c.toNat,by omega⟩
     unfold sB;rw[if_pos rfl];by_cases hcb:(cn:Int)<bb.length
     ·rw[if_pos hcb];have hcb':cn<bb.length:=by omega
      match l,t1 with
      |[k0,k1],_ =>
      simp only[List.map_cons,List.map_nil,Int.toNat_natCast];have e:=sT bb cn (by omega) hcb;rw[Int.toNat_natCast]at e;have e4:(((bb.flatMap jM).map AV.pv).drop (cn*2)).take 2=[.pv (.int .i64 (bb.getD cn zr).lo),.pv (.int .i64 (bb.getD cn zr).hi)]:=by rw[←List.map_drop,←List.map_take,e];rfl
      clear e;generalize bb.getD cn zr=y at *;iterate 9 first
       |refine⟨fun h=>by simp at h<;>omega,fun _=>?_⟩
       |refine⟨by simp[vb,hcb,hcb',f4,e4,a6]<;>omega,by simp[vb,hcb,hcb',f4,e4,a6]<;>omega,?_⟩
       |(refine bJ [(54,{val:=some (.pv (.agg [.int .i64 y.lo,.int .i64 y.hi]))})] ?_;iterate 2 (try dsimp only[eS,ep,af,bB,Tree.kind,Tree.steps,Tree.cell,Tree.pos,Tree.kids,go_sem]))
      refine bJ [(54,{val:=some (.pv (.agg [.int .i64 y.lo,.int .i64 y.hi]))})] ?_;dsimp only[eS,ep,af,bB,Tree.kind,Tree.steps,Tree.cell,Tree.pos,Tree.kids,go_sem];refine⟨fun _=>?_,fun h=>by simp at h<;>omega⟩;iterate 5 first
       |refine⟨fun h=>by simp at h<;>omega,fun _=>?_⟩
       |refine⟨by simp[vb,hcb,hcb',f4,e4,a6]<;>omega,by simp[vb,hcb,hcb',f4,e4,a6]<;>omega,?_⟩
       |(refine bJ [(54,{val:=some (.pv (.agg [.int .i64 y.lo,.int .i64 y.hi]))})] ?_;iterate 2 (try dsimp only[eS,ep,af,bB,Tree.kind,Tree.steps,Tree.cell,Tree.pos,Tree.kids,go_sem]))
      refine bJ [(54,{val:=some (.pv (.agg [.int .i64 y.lo,.int .i64 y.hi]))})] ?_;dsimp only[eS,ep,af,bB,Tree.kind,Tree.steps,Tree.cell,Tree.pos,Tree.kids,go_sem];try dsimp only[eS,ep,af,bB,Tree.kind,Tree.steps,Tree.cell,Tree.pos,Tree.kids,go_sem]
      refine⟨(by first|exact True.intro|(simp only[vb,lb];omega)|(simp only[vb,lb,hcb,hcb',f4,e4,a6];and_intros<;>first|omega|(simp<;>omega))|(simp[vb,hcb,hcb',f4,e4,a6]<;>omega)),(by first|exact True.intro|((try dsimp only[go_sem]);first|(simp[vb,hcb,hcb',f4,e4,a6]<;>omega)|(simp only[vb,and_true,true_implies];(repeat' (first|(with_reducible assumption)|(with_reducible apply And.intro)|intro _|((fail_if_success (with_reducible show(_:Int)≤_));assumption)))<;>first|omega|rfl|(simp only[ab,hcb,hcb',f4,e4,a6];done)|(simp[Nat.mul_one,hcb,hcb',f4,e4,a6]<;>omega)|(simp_all;done)))),?_⟩
      refine bO [(2,.ptr 0 0 0),(3,.ptr 1 0 0),(9,.ptr 3 0 0)] (by (repeat' (first|exact trivial|refine And.intro (by first|rfl|(simp[get,Nat.beq];done)|(simp[get,Nat.beq];omega)|(dsimp only[get];congr 1<;>first|rfl|omega|(simp;done)|(simp;omega))) ?_))) ?_;have hcr:=fun μ hj=>Dd bb 1 hpos hb μ 2 hj
      refine FD 2 [] [] rfl ?_ ?_;dsimp only[rV,go_sem];refine⟨(by first|exact True.intro|(simp only[vb,lb];omega)|(simp[vb]<;>omega)),(by first|exact True.intro|((try dsimp only[go_sem]);first|(simp[vb]<;>omega)|(simp only[vb,and_true,true_implies];(repeat' (first|(with_reducible assumption)|(with_reducible apply And.intro)|intro _|((fail_if_success (with_reducible show(_:Int)≤_));assumption)))<;>first|omega|rfl|(simp only[ab];done)|(simp[Nat.mul_one]<;>omega)|(simp_all;done)))),rfl,?_⟩;dsimp only[go_sem];rotate_left;dsimp only[rW,me,go_sem]
      refine⟨(by first|exact True.intro|(simp only[vb,lb];omega)|(simp[vb]<;>omega)),(by first|exact True.intro|((try dsimp only[go_sem]);first|(simp[vb]<;>omega)|(simp only[vb,and_true,true_implies];(repeat' (first|(with_reducible assumption)|(with_reducible apply And.intro)|intro _|((fail_if_success (with_reducible show(_:Int)≤_));assumption)))<;>first|omega|rfl|(simp only[ab];done)|(simp[Nat.mul_one]<;>omega)|(simp_all;done)))),rfl,?_⟩;refine jt [0,1,2,3,5,4] rfl ?_;dsimp only[go_sem];rw[Gb];all_goals
       refine bO [(2,.ptr 0 0 0),(3,.ptr 1 0 0),(9,.ptr 3 0 0),(10,.ptr 4 0 0),(11,.ptr 5 0 0)] (by (repeat' (first|exact trivial|refine And.intro (by first|rfl|(simp[get,Nat.beq];done)|(simp[get,Nat.beq];omega)|(dsimp only[get];congr 1<;>first|rfl|omega|(simp;done)|(simp;omega))) ?_))) ?_;simp only[jG]at hw;have ih0:=ih k0 (by simp) (by simpa using (List.all_eq_true.mp hf3 k0 (by simp))) (by omega) rows (bb.set cn ⟨y.lo,min y.hi a⟩) ch hr hrt (by simpa using hb) (by simpa using hgo)
       have ih1:=ih k1 (by simp) (by simpa using (List.all_eq_true.mp hf3 k1 (by simp))) (by omega) rows (bb.set cn ⟨max y.lo (a+1),y.hi⟩) ch hr hrt (by simpa using hb) (by simpa using hgo);clear ih;unfold bB at hcr;refine bJ [(59,{val:=some (.ref 6 1 0 bb.length),new:=[⟨(bb.flatMap jM).map .pv,1,2,57,false⟩]}),(62,{val:=some (.ref 7 1 0 bb.length),new:=[⟨(bb.flatMap jM).map .pv,1,2,57,false⟩]})] ?_;dsimp only[go_sem];try dsimp only[go_sem]
       refine⟨(by simp[vb]<;>omega),?_,(by first|rfl|trivial),?_⟩
       ·iterate 3 (try dsimp only[kZ,rl,go_sem])
        exact⟨hcr _ rfl,hcr _ rfl,trivial⟩
       iterate 3 (try dsimp only[kZ,rl,go_sem])
       refine bO [(2,.ptr 0 0 0),(3,.ptr 1 0 0),(9,.ptr 3 0 0),(10,.ptr 4 0 0),(11,.ptr 5 0 0)] (by (repeat' (first|exact trivial|refine And.intro (by first|rfl|(simp[get,Nat.beq];done)|(simp[get,Nat.beq];omega)|(dsimp only[get];congr 1<;>first|rfl|omega|(simp;done)|(simp;omega))) ?_))) ?_;have e6:=du bb;have hm1:=zN y ⟨y.lo,a⟩;have hm2:=zN y ⟨a+1,y.hi⟩;have e7:=fun b lo hi h=>s4 b cn lo hi h
       simp only[Int.max_self,Int.min_self]at hm1 hm2;refine bU (kP (T:=[(79,fun ps=>match ps with|[.agg [.int _ a,.int _ b],.agg [.int _ c,.int _ d]]=>some (.agg [.int .i64 (max a c),.int .i64 (min b d)])|_=>none)]) (H:=[]) (by rfl) ?_);dsimp only[eg,go_sem];try dsimp only[go_sem]
       refine⟨(by simp[vb,hcb,hcb',e6,hm1]<;>omega),(by simp[vb,hcb,hcb',e6,hm1]<;>omega),?_⟩;iterate 3 (try dsimp only[go_sem])
       refine bO [(2,.ptr 0 0 0),(3,.ptr 1 0 0),(9,.ptr 3 0 0),(10,.ptr 4 0 0),(11,.ptr 5 0 0)] (by (repeat' (first|exact trivial|refine And.intro (by first|rfl|(simp[get,Nat.beq];done)|(simp[get,Nat.beq];omega)|(dsimp only[get];congr 1<;>first|rfl|omega|(simp;done)|(simp;omega))) ?_))) ?_;rw[show((((bb.flatMap jM).map AV.pv).set (0+(cn:Int).toNat*2) (.pv (.int .i64 (max y.lo y.lo)))).set (0+(cn:Int).toNat*2+1) (.pv (.int .i64 (min y.hi a))))=((bb.set cn ⟨y.lo,min y.hi a⟩).flatMap jM).map AV.pv from by rw[←e7 bb _ _ hcb',Int.max_self];simp]
       refine bU (kP (T:=[(79,fun ps=>match ps with|[.agg [.int _ a,.int _ b],.agg [.int _ c,.int _ d]]=>some (.agg [.int .i64 (max a c),.int .i64 (min b d)])|_=>none)]) (H:=[]) (by rfl) ?_);dsimp only[eg,go_sem];try dsimp only[go_sem]
       refine⟨(by simp[vb,hcb,hcb',e6,hm2]<;>omega),(by simp[vb,hcb,hcb',e6,hm2]<;>omega),?_⟩;iterate 3 (try dsimp only[go_sem])
       refine bO [(2,.ptr 0 0 0),(3,.ptr 1 0 0),(9,.ptr 3 0 0),(10,.ptr 4 0 0),(11,.ptr 5 0 0)] (by (repeat' (first|exact trivial|refine And.intro (by first|rfl|(simp[get,Nat.beq];done)|(simp[get,Nat.beq];omega)|(dsimp only[get];congr 1<;>first|rfl|omega|(simp;done)|(simp;omega))) ?_))) ?_;rw[show((((bb.flatMap jM).map AV.pv).set (0+(cn:Int).toNat*2) (.pv (.int .i64 (max y.lo (a+1))))).set (0+(cn:Int).toNat*2+1) (.pv (.int .i64 (min y.hi y.hi))))=((bb.set cn ⟨max y.lo (a+1),y.hi⟩).flatMap jM).map AV.pv from by rw[←e7 bb _ _ hcb',Int.min_self];simp];clear hcr e7 hm1 hm2 e6 e4
       have hbl0:(bb.set cn ⟨y.lo,min y.hi a⟩).length=bb.length:=by simp
       have hbl1:(bb.set cn ⟨max y.lo (a+1),y.hi⟩).length=bb.length:=by simp
       generalize bb.set cn ⟨y.lo,min y.hi a⟩=bl at *;generalize bb.set cn ⟨max y.lo (a+1),y.hi⟩=bh at *;generalize b8 s k0 rows bl ch=q0 at *;generalize b8 s k1 rows bh ch=q1 at *;have z1:=du bl;have z2:=du bh;have x1:(0+bb.length*2).ble ((bl.flatMap jM).map AV.pv).length=true:=by rw[List.length_map,z1,hbl0];simp
       have x3:(0+bb.length*2).ble ((bh.flatMap jM).map AV.pv).length=true:=by rw[List.length_map,z2,hbl1];simp
       have x2:a6 (((bl.flatMap jM).map AV.pv).take (bb.length*2))=some (bl.flatMap jM):=by rw[←hbl0];exact(nr bl 1).2
       have x4:a6 (((bh.flatMap jM).map AV.pv).take (bb.length*2))=some (bh.flatMap jM):=by rw[←hbl1];exact(nr bh 1).2
       obtain⟨a0,a1,a2,a3,a4⟩:=k0;obtain⟨d0,d1,d2,d3,d4⟩:=k1;have g0:=kp [.node a0 a1 a2 a3 a4,.node d0 d1 d2 d3 d4] 0 (by simp);have g1:=kp [.node a0 a1 a2 a3 a4,.node d0 d1 d2 d3 d4] 1 (by simp);simp only[List.getD_cons_zero,List.getD_cons_succ,Tree.kind,Tree.steps,Tree.cell,Tree.pos,Tree.kids,Nat.zero_mul,Nat.one_mul,List.drop_zero]at g0 g1;have g2':([Tree.node a0 a1 a2 a3 a4,.node d0 d1 d2 d3 d4].flatMap iP).length=10:=kq _;simp only[aI,Tree.kind,Tree.steps,Tree.cell,Tree.pos,Tree.kids]at ih0 ih1;unfold az ae at ih0 ih1;unfold az at g0 g1
       refine bJ [(94,{val:=some (.pv (.agg [.int .i64 a0,ai a1,.int .i64 a2,.int .i64 a3,az a4]))}),(95,{val:=some (.pv (.bool q0)),args:=some [.agg [ae s.box,ax s.rows,aE s.graphs,aA s.cases,ax rows,ae bl,.bool ch],.agg [.int .i64 a0,ai a1,.int .i64 a2,.int .i64 a3,az a4]]}),(101,{val:=some (.pv (.agg [.int .i64 d0,ai d1,.int .i64 d2,.int .i64 d3,az d4]))}),(102,{val:=some (.pv (.bool q1)),args:=some [.agg [ae s.box,ax s.rows,aE s.graphs,aA s.cases,ax rows,ae bh,.bool ch],.agg [.int .i64 d0,ai d1,.int .i64 d2,.int .i64 d3,az d4]]})] ?_
       dsimp only[az,go_sem];try dsimp only[az,go_sem]
       refine⟨(by simp[vb,iD]<;>omega),?_,?_⟩
       ·unfold ae;simp only[x1,x2,x3,x4,cond_true,g0,g1,hbl0,hbl1]at ih0 ih1 ⊢;exact⟨fun _ h=>h,fun h=>⟨trivial,⟨fun _=>h,fun _=>h,trivial⟩,trivial,ih1,trivial⟩,fun h=>⟨by simp[vb,iD],⟨fun _=>h,trivial⟩,trivial,trivial⟩,fun h=>⟨by simp[vb],⟨fun _=>h,trivial⟩,trivial⟩,fun h=>⟨by simp[vb],⟨fun _=>h,trivial⟩,trivial⟩,fun _=>⟨trivial,trivial,trivial⟩,fun _=>⟨by simp[vb],trivial,trivial⟩,trivial,ih0,trivial,trivial⟩
       repeat' (first
        |((with_reducible show aH _);exact True.intro)
        |exact(rfl:some _=_)
        |(
         fail_if_success refine a7 ?_
         refine aV ?_;repeat1' dsimp only[pZ,go_sem]
         first
         |refine a8 ?_ ?_ rfl ?_
         |apply ba
         |apply bc
         |(refine bf (fun hc=>?_) fun hc=>?_<;>first|(cases hc;done)|(try simp only[bn]at hc;try contradiction))
         |skip))
       rw[lq]
     ·rw[if_neg hcb];repeat' (first
       |((with_reducible show aH _);first|exact True.intro|(simp only[vb,lb,hcb];and_intros<;>first|omega|(simp<;>omega)))
       |((with_reducible show aP _);exact True.intro)
       |exact(rfl:some _=_)
       |(
        fail_if_success refine a7 ?_
        refine aV ?_;repeat1' dsimp only[pZ,eS,ep,af,bB,Tree.kind,Tree.steps,Tree.cell,Tree.pos,Tree.kids,go_sem]
        first
        |refine a8 ?_ ?_ rfl ?_
        |apply ba
        |apply bc
        |(refine bf (fun hc=>?_) fun hc=>?_<;>first|(cases hc;done)|(exfalso;(simp at hc<;>omega))|(try simp only[bn]at hc;try contradiction))
        |skip))
    ·by_cases hk2:kd=2
     ·subst hk2;simp[gm]at hf2;obtain⟨⟨⟨t1,t2⟩,rfl⟩,rfl⟩:=hf2;have hcc:=hs.c;unfold sB;rw[if_neg (by decide),if_pos rfl,List.length_map];cases ch with
      |true =>
       repeat' (first
        |((with_reducible show aH _);first|exact True.intro|(simp only[vb,lb,hlt];and_intros<;>first|omega|(simp<;>omega)))
        |((with_reducible show aP _);first|exact True.intro|((try dsimp only[go_sem]);(simp[vb,hlt]<;>omega)))
        |exact(rfl:some _=_)
        |(
         fail_if_success refine a7 ?_
         refine bJ [(107,{val:=some (.pv (.bool true))})] ?_;repeat1' dsimp only[pZ,eS,ep,af,bB,Tree.kind,Tree.steps,Tree.cell,Tree.pos,Tree.kids,az,aA,go_sem]
         first
         |refine a8 ?_ ?_ rfl ?_
         |apply ba
         |apply bc
         |(refine bf (fun hc=>?_) fun hc=>?_<;>first|(cases hc;done)|(exfalso;(simp at hc<;>omega))|(try simp only[bn]at hc;try contradiction))
         |skip))
      |false =>
       by_cases hlc:l.length=s.cases.length
       ·rw[decide_eq_true hlc];simp only[Bool.not_false,Bool.true_and];generalize hres:od rows bb (l.map (b8 s)) s.cases=res;repeat' (first
         |((with_reducible show aH _);first|exact True.intro|(simp only[vb,lb,hlt,hlc];and_intros<;>first|omega|(simp<;>omega)))
         |((with_reducible show aP _);first|exact True.intro|((try dsimp only[go_sem]);(simp[vb,hlt,hlc]<;>omega)))
         |exact(rfl:some _=_)
         |(
          fail_if_success refine a7 ?_
          refine bJ [(107,{val:=some (.pv (.bool false))}),(116,{val:=some (.pv (.bool false))})] ?_;repeat1' dsimp only[pZ,eS,ep,af,bB,Tree.kind,Tree.steps,Tree.cell,Tree.pos,Tree.kids,az,aA,go_sem]
          first
          |refine a8 ?_ ?_ rfl ?_
          |apply ba
          |apply bc
          |(refine bf (fun hc=>?_) fun hc=>?_<;>first|(cases hc;done)|(exfalso;(simp at hc<;>omega))|(try simp only[bn]at hc;try contradiction))
          |skip))
        refine dY (σ:=Nat) (fun k=>k≤l.length∧od rows bb ((l.map (b8 s)).drop k) (s.cases.drop k)=res)
         (fun k=>[(2,.ptr 0 0 0),(3,.ptr 1 0 0),(119,.pv (az l)),(120,.pv (.int .i64 l.length)),(121,.pv (.int .i64 k))])
         (fun k=>[eS s rows (.ref 2 1 0 bb.length) false,af (.node 2 st 0 0 l),bB bb 1]) (fun k=>l.length-k) 0 ⟨Nat.zero_le _,hres⟩ (by (repeat' (first|exact trivial|refine And.intro (by first|rfl|(simp[get,Nat.beq];done)|(simp[get,Nat.beq];omega)|(dsimp only[get];congr 1<;>first|rfl|omega|(simp;done)|(simp;omega))) ?_))) ⟨[],rfl⟩ (fun _ _=>⟨Nat.zero_le _,rfl,by simp[aM,eS,ep,af,bB,dA,Nat.blt]⟩) fun k hq=>?_
        obtain⟨q1,q2⟩:=hq;by_cases hlk:k<l.length
        ·have hkc:k<s.cases.length:=by omega
         have e:=kp l k hlk;have e2:=ma s.cases k hkc;have e3:=kU s.cases;have hcl:=hs.l _ (aT (d:=([]:List Rw)) hkc);have hmem:=aT (d:=zt) hlk;have hwk:=pQ hmem;have hih:=ih _ hmem (List.all_eq_true.mp hf3 _ hmem) (by omega) (rows++s.cases.getD k []) bb true (by rw[List.length_append];unfold rj at hr ⊢;simp only[cond_true,cond_false]at hr ⊢;omega) (fun r hr=>by
          rcases List.mem_append.mp hr with h|h
          ·exact hrt r h
          ·exact hcl.2 r h) hb hgo
         have hcon:=ur [rows,s.cases.getD k []] (by simp) (by simp only[j8,List.map_cons,List.map_nil,List.sum_cons,List.sum_nil];omega);rw[show[rows,s.cases.getD k []].flatten=rows++s.cases.getD k [] by simp]at hcon;rw[fM _ k (b8 s zt) (by simpa using hlk),fM s.cases k [] hkc,od]at q2;rw[show(l.map (b8 s)).getD k (b8 s zt)=b8 s (l.getD k zt) by simp[List.getD]]at q2;generalize hrest:od rows bb ((l.map (b8 s)).drop (k+1)) (s.cases.drop (k+1))=rest at *;generalize s.cases.getD k []=cs at *;generalize l.getD k zt=x at *
         generalize b8 s x (rows++cs) bb true=qx at *;generalize rows++cs=rows2 at *;obtain⟨x1,x2⟩:=nr bb 1;obtain⟨a0,a1,a2,a3,a4⟩:=x;simp only[aI,Tree.kind,Tree.steps,Tree.cell,Tree.pos,Tree.kids]at hih e;clear ih hres;have hcon:ah ctx 80 [.sl 2 [ax rows,.sl cs.length (cs.flatMap eZ)]] (.sl rows2.length (rows2.flatMap eZ)):=hcon;have z1:=du bb;iterate 5 first
          |refine⟨fun _=>?_,fun h=>by simp at h<;>omega⟩
          |refine⟨by simp[vb,e,f3,hlk,e2,e3,hkc,hcon,az]<;>omega,by simp[vb,e,f3,hlk,e2,e3,hkc,hcon,az]<;>omega,?_⟩
          |(refine eW [(80,fun _=>some (.sl rows2.length (rows2.flatMap eZ)))] [(125,{val:=some (.pv (.agg [.int .i64 a0,ai a1,.int .i64 a2,.int .i64 a3,az a4]))}),(134,{val:=some (.pv (.sl cs.length (cs.flatMap eZ)))})] ?_;iterate 2 (try dsimp only[eS,ep,af,bB,Tree.kind,Tree.steps,Tree.cell,Tree.pos,Tree.kids,az,aA,go_sem]))
         refine eW [(80,fun _=>some (.sl rows2.length (rows2.flatMap eZ)))] [(125,{val:=some (.pv (.agg [.int .i64 a0,ai a1,.int .i64 a2,.int .i64 a3,az a4]))}),(134,{val:=some (.pv (.sl cs.length (cs.flatMap eZ)))})] ?_;dsimp only[eS,ep,af,bB,Tree.kind,Tree.steps,Tree.cell,Tree.pos,Tree.kids,az,aA,go_sem];try dsimp only[eS,ep,af,bB,Tree.kind,Tree.steps,Tree.cell,Tree.pos,Tree.kids,az,aA,go_sem]
         refine⟨(by first|exact True.intro|(simp only[vb,lb];omega)|(simp only[vb,lb,e,f3,hlk,e2,e3,hkc,hcon,az];and_intros<;>first|omega|(simp<;>omega))|(simp[vb,e,f3,hlk,e2,e3,hkc,hcon,az]<;>omega)),(by first|exact True.intro|((try dsimp only[go_sem]);first|(simp[vb,e,f3,hlk,e2,e3,hkc,hcon,az]<;>omega)|(simp only[vb,and_true,true_implies];(repeat' (first|(with_reducible assumption)|(with_reducible apply And.intro)|intro _|((fail_if_success (with_reducible show(_:Int)≤_));assumption)))<;>first|omega|rfl|(simp only[ab,e,f3,hlk,e2,e3,hkc,hcon,az];done)|(simp[Nat.mul_one,e,f3,hlk,e2,e3,hkc,hcon,az]<;>omega)|(simp_all;done)))),?_⟩
         refine eW [(80,fun _=>some (.sl rows2.length (rows2.flatMap eZ)))] [(125,{val:=some (.pv (.agg [.int .i64 a0,ai a1,.int .i64 a2,.int .i64 a3,az a4]))}),(134,{val:=some (.pv (.sl cs.length (cs.flatMap eZ)))})] ?_;dsimp only[eS,ep,af,bB,Tree.kind,Tree.steps,Tree.cell,Tree.pos,Tree.kids,az,aA,go_sem];try dsimp only[eS,ep,af,bB,Tree.kind,Tree.steps,Tree.cell,Tree.pos,Tree.kids,az,aA,go_sem]
         refine⟨(by simp[vb,e,f3,hlk,e2,e3,hkc,hcon,az]<;>omega),(by simp[vb,e,f3,hlk,e2,e3,hkc,hcon,az]<;>omega),?_⟩;refine bU (kP (T:=[(80,fun _=>some (.sl rows2.length (rows2.flatMap eZ)))]) (H:=[(125,{val:=some (.pv (.agg [.int .i64 a0,ai a1,.int .i64 a2,.int .i64 a3,az a4]))}),(134,{val:=some (.pv (.sl cs.length (cs.flatMap eZ)))})]) (by rfl) ?_);dsimp only[eg,eS,ep,af,bB,Tree.kind,Tree.steps,Tree.cell,Tree.pos,Tree.kids,az,aA,go_sem];try dsimp only[eS,ep,af,bB,Tree.kind,Tree.steps,Tree.cell,Tree.pos,Tree.kids,az,aA,go_sem]
         refine⟨(by simp[vb,e,f3,hlk,e2,e3,hkc,hcon,az]<;>omega),(by simp[vb,e,f3,hlk,e2,e3,hkc,hcon,az]<;>omega),?_⟩;iterate 4 (try dsimp only[go_sem])
         unfold az ae at hih;have x3:(0+bb.length*2).ble ((bb.flatMap jM).map AV.pv).length=true:=by rw[List.length_map,z1];simp
         refine bJ [(141,{val:=some (.pv (.bool qx)),args:=some [.agg [.sl s.box.length (s.box.flatMap jM),ax s.rows,aE s.graphs,aA s.cases,.sl rows2.length (rows2.flatMap eZ),.sl bb.length (bb.flatMap jM),.bool true],.agg [.int .i64 a0,ai a1,.int .i64 a2,.int .i64 a3,.sl a4.length (a4.flatMap iP)]]})] ?_;dsimp only[az,ae,aA,go_sem];try dsimp only[az,ae,aA,go_sem]
         refine⟨(by simp[vb]<;>omega),?_,?_⟩
         ·iterate 3 (try dsimp only[go_sem])
          unfold aA at hih;simp only[x3,x2,cond_true];exact⟨trivial,hih,trivial⟩
         cases qx with
         |true =>
          repeat' (first
           |((with_reducible show aH _);first|exact True.intro|(simp only[vb,lb,hlk];and_intros<;>first|omega|(simp<;>omega)))
           |((with_reducible show aP _);exact True.intro)
           |exact(rfl:some _=_)
           |(
            fail_if_success refine a7 ?_
            refine aV ?_;repeat1' dsimp only[pZ,go_sem]
            first
            |refine a8 ?_ ?_ rfl ?_
            |apply ba
            |apply bc
            |(refine bf (fun hc=>?_) fun hc=>?_<;>first|(cases hc;done)|(try simp only[bn]at hc;try contradiction))
            |skip))
          exact⟨k+1,by show l.length-(k+1)<l.length-k;omega,⟨by show k+1≤_;omega,by rw[←q2];simpa using hrest⟩,by (repeat' (first|exact trivial|refine And.intro (by first|rfl|(simp[get,Nat.beq];done)|(simp[get,Nat.beq];omega)|(dsimp only[get];congr 1<;>first|rfl|omega|(simp;done)|(simp;omega))) ?_)),_,rfl⟩
         |false =>
          repeat' (first
           |((with_reducible show aH _);first|exact True.intro|(simp only[vb,lb,hlk];and_intros<;>first|omega|(simp<;>omega)))
           |((with_reducible show aP _);exact True.intro)
           |exact(rfl:some _=_)
           |(
            fail_if_success refine a7 ?_
            refine aV ?_;repeat1' dsimp only[pZ,go_sem]
            first
            |refine a8 ?_ ?_ rfl ?_
            |apply ba
            |apply bc
            |(refine bf (fun hc=>?_) fun hc=>?_<;>first|(cases hc;done)|(try simp only[bn]at hc;try contradiction))
            |skip))
          rw[←q2];rfl
        ·obtain rfl:k=l.length:=by omega
         rw[List.drop_of_length_le (by simp),od]at q2;subst q2;repeat' (first
          |((with_reducible show aH _);exact True.intro)
          |((with_reducible show aP _);exact True.intro)
          |exact(rfl:some _=_)
          |(
           fail_if_success refine a7 ?_
           refine aV ?_;repeat1' dsimp only[pZ,eS,ep,af,bB,Tree.kind,Tree.steps,Tree.cell,Tree.pos,Tree.kids,az,aA,go_sem]
           first
           |refine a8 ?_ ?_ rfl ?_
           |apply ba
           |apply bc
           |(refine bf (fun hc=>?_) fun hc=>?_<;>first|(cases hc;done)|(exfalso;(simp at hc<;>omega))|(try simp only[bn]at hc;try contradiction))
           |skip))
         all_goals (intro _ _ _ _ h;cases h)
       ·rw[decide_eq_false hlc];have hlc':¬(l.length:Int)=(s.cases.length:Int):=by omega
        repeat' (first
         |((with_reducible show aH _);first|exact True.intro|(simp only[vb,lb,hlt,hlc'];and_intros<;>first|omega|(simp<;>omega)))
         |((with_reducible show aP _);first|exact True.intro|((try dsimp only[go_sem]);(simp[vb,hlt,hlc']<;>omega)))
         |exact(rfl:some _=_)
         |(
          fail_if_success refine a7 ?_
          refine bJ [(107,{val:=some (.pv (.bool false))}),(116,{val:=some (.pv (.bool true))})] ?_;repeat1' dsimp only[pZ,eS,ep,af,bB,Tree.kind,Tree.steps,Tree.cell,Tree.pos,Tree.kids,az,aA,go_sem]
          first
          |refine a8 ?_ ?_ rfl ?_
          |apply ba
          |apply bc
          |(refine bf (fun hc=>?_) fun hc=>?_<;>first|(cases hc;done)|(exfalso;(simp at hc<;>omega))|(try simp only[bn]at hc;try contradiction))
          |skip))
     ·rw[show sB s kd c a (l.map (b8 s)) rows bb ch=false by rw[sB,if_neg hk1,if_neg hk2]];repeat' (first
       |((with_reducible show aH _);first|exact True.intro|(simp only[vb,lb,hk1,hk2];and_intros<;>first|omega|(simp<;>omega)))
       |((with_reducible show aP _);exact True.intro)
       |exact(rfl:some _=_)
       |(
        fail_if_success refine a7 ?_
        refine aV ?_;repeat1' dsimp only[pZ,eS,ep,af,bB,Tree.kind,Tree.steps,Tree.cell,Tree.pos,Tree.kids,go_sem]
        first
        |refine a8 ?_ ?_ rfl ?_
        |apply ba
        |apply bc
        |(refine bf (fun hc=>?_) fun hc=>?_<;>first|(cases hc;done)|(exfalso;(simp at hc<;>omega))|(try simp only[bn]at hc;try contradiction))
        |skip))
end
section
open Rf
theorem zU.of {s:Sy} (h:gJ s=true) (hs:zO s):zU s∧(∀q∈s.graphs,bX s.box.length q=true)∧s.rows.length≤1000000:=by
 simp only[gJ,Bool.and_eq_true,decide_eq_true_eq]at h;obtain⟨⟨⟨⟨⟨⟨h1,h2⟩,h3⟩,h4⟩,h5⟩,h6⟩,h7⟩:=h;refine⟨⟨hs.g,by omega,fun l hl=>⟨?_,hs.ct l hl⟩⟩,fun q hq=>List.all_eq_true.mp h6 q hq,by omega⟩;have:=List.all_eq_true.mp h7 l hl;simp only[gy,Bool.and_eq_true,decide_eq_true_eq]at this;omega
set_option maxHeartbeats 4000000 in
theorem Dg (s:Sy) (hs:zO s) (t:Tree) (ht:wt t≤1000000000):ah ctx 22 [.agg [ae s.box,ax s.rows,aE s.graphs,aA s.cases],aI t] (.bool (pT s t)):=by
 have h1:=xh s hs;have h2:=sH t ht;have h3:gJ s=true→iR t=true→ah ctx 47 [.agg [ae s.box,ax s.rows,aE s.graphs,aA s.cases,ax s.rows,ae s.box,.bool false],aI t] (.bool (b8 s t s.rows s.box false)):=fun a b=>by
  obtain⟨g1,g2,g3⟩:=zU.of a hs;simp only[iR,Bool.and_eq_true]at b;exact yU s g1 t b.2 ht s.rows s.box false g3 hs.rt hs.b g2
 unfold pT;generalize b8 s t s.rows s.box false=q3 at *;generalize gJ s=q1 at *;generalize iR t=q2 at *;unfold ae ax aE aA at h1 h3;simp only[aI]at h2 h3;unfold ai az at h2 h3;cases q1 with
 |false =>
  refine ar (C:=ctx) (Fn.of D8 rfl) rfl ?_;unfold GO;refine iF [(46,fun _=>some (.bool false)),(13,fun _=>some (.bool q2))] ?_;dsimp only[aI,ai,az,ae,ax,aE,aA,go_sem];try dsimp only[aI,ai,az,ae,ax,aE,aA,go_sem]
  refine⟨(by simp[vb,h1,h2]<;>omega),(by simp[vb,h1,h2]<;>omega),?_⟩;refine bU (ju (T:=[(46,fun _=>some (.bool false)),(13,fun _=>some (.bool q2))]) (H:=[]) ?_);dsimp only[aI,ai,az,ae,ax,aE,aA,go_sem];try dsimp only[aI,ai,az,ae,ax,aE,aA,go_sem]
  refine⟨(by first|exact True.intro|(simp only[vb,lb];omega)|(simp only[vb,lb,h1,h2];and_intros<;>first|omega|(simp<;>omega))|(simp[vb,h1,h2]<;>omega)),(by first|exact True.intro|((try dsimp only[go_sem]);first|(simp[vb,h1,h2]<;>omega)|(simp only[vb,and_true,true_implies];(repeat' (first|(with_reducible assumption)|(with_reducible apply And.intro)|intro _|((fail_if_success (with_reducible show(_:Int)≤_));assumption)))<;>first|omega|rfl|(simp only[ab,h1,h2];done)|(simp[Nat.mul_one,h1,h2]<;>omega)|(simp_all;done)))),?_⟩;refine iF [(46,fun _=>some (.bool false)),(13,fun _=>some (.bool q2))] ?_
  dsimp only[aI,ai,az,ae,ax,aE,aA,go_sem];exact⟨trivial,rfl⟩
 |true =>
  cases q2 with
  |false =>
   refine ar (C:=ctx) (Fn.of D8 rfl) rfl ?_;unfold GO;refine iF [(46,fun _=>some (.bool true)),(13,fun _=>some (.bool false))] ?_;dsimp only[aI,ai,az,ae,ax,aE,aA,go_sem];try dsimp only[aI,ai,az,ae,ax,aE,aA,go_sem]
   refine⟨(by simp[vb,h1,h2]<;>omega),(by simp[vb,h1,h2]<;>omega),?_⟩;refine bU (ju (T:=[(46,fun _=>some (.bool true)),(13,fun _=>some (.bool false))]) (H:=[]) ?_);dsimp only[aI,ai,az,ae,ax,aE,aA,go_sem];try dsimp only[aI,ai,az,ae,ax,aE,aA,go_sem]
   refine⟨(by first|exact True.intro|(simp only[vb,lb];omega)|(simp only[vb,lb,h1,h2];and_intros<;>first|omega|(simp<;>omega))|(simp[vb,h1,h2]<;>omega)),(by first|exact True.intro|((try dsimp only[go_sem]);first|(simp[vb,h1,h2]<;>omega)|(simp only[vb,and_true,true_implies];(repeat' (first|(with_reducible assumption)|(with_reducible apply And.intro)|intro _|((fail_if_success (with_reducible show(_:Int)≤_));assumption)))<;>first|omega|rfl|(simp only[ab,h1,h2];done)|(simp[Nat.mul_one,h1,h2]<;>omega)|(simp_all;done)))),?_⟩
   refine iF [(46,fun _=>some (.bool true)),(13,fun _=>some (.bool false))] ?_;dsimp only[aI,ai,az,ae,ax,aE,aA,go_sem];exact⟨trivial,rfl⟩
  |true =>
   have h3:=h3 rfl rfl;refine ar (C:=ctx) (Fn.of D8 rfl) rfl ?_;unfold GO;refine iF [(46,fun _=>some (.bool true)),(13,fun _=>some (.bool true)),(47,fun _=>some (.bool q3))] ?_;dsimp only[aI,ai,az,ae,ax,aE,aA,go_sem];try dsimp only[aI,ai,az,ae,ax,aE,aA,go_sem]
   refine⟨(by simp[vb,h1,h2,h3]<;>omega),(by simp[vb,h1,h2,h3]<;>omega),?_⟩;refine bU (ju (T:=[(46,fun _=>some (.bool true)),(13,fun _=>some (.bool true)),(47,fun _=>some (.bool q3))]) (H:=[]) ?_);dsimp only[aI,ai,az,ae,ax,aE,aA,go_sem];try dsimp only[aI,ai,az,ae,ax,aE,aA,go_sem]
   refine⟨(by first|exact True.intro|(simp only[vb,lb];omega)|(simp only[vb,lb,h1,h2,h3];and_intros<;>first|omega|(simp<;>omega))|(simp[vb,h1,h2,h3]<;>omega)),(by first|exact True.intro|((try dsimp only[go_sem]);first|(simp[vb,h1,h2,h3]<;>omega)|(simp only[vb,and_true,true_implies];(repeat' (first|(with_reducible assumption)|(with_reducible apply And.intro)|intro _|((fail_if_success (with_reducible show(_:Int)≤_));assumption)))<;>first|omega|rfl|(simp only[ab,h1,h2,h3];done)|(simp[Nat.mul_one,h1,h2,h3]<;>omega)|(simp_all;done)))),?_⟩
   refine iF [(46,fun _=>some (.bool true)),(13,fun _=>some (.bool true)),(47,fun _=>some (.bool q3))] ?_;dsimp only[aI,ai,az,ae,ax,aE,aA,go_sem];exact⟨trivial,rfl⟩
end
section
open Rf
def Hg:ay:=(⟨_,by conv=>(lhs;reduce;try simp only[eA,Int.cast_ofNat_Int,Int.reduceNegSucc,UInt8.reduceOfNat])⟩:{x // codeOf Tryz.prog 45 (fun _=>false)=some x}).1
theorem Ib:bK Tryz.prog 45 (fun _=>false)=some (Hg,[.t 4],52,true):=by kernel_rfl
def c21:ay:=(⟨_,by conv=>(lhs;reduce;try simp only[eA,Int.cast_ofNat_Int,Int.reduceNegSucc,UInt8.reduceOfNat])⟩:{x // codeOf Tryz.prog 21 (fun _=>false)=some x}).1
theorem Hh:bK Tryz.prog 21 (fun _=>false)=some (c21,[.t 4],32,true):=by kernel_rfl
def EP (s:Sy) (most:Int):Bool:=(((decide (s.box.length≤12)&&decide (s.rows.length≤30))&&decide (s.graphs.length≤6))&&decide (s.cases.length≤12))&&gJ s&&s.cases.all (fun l=>decide (l.length≤8))&&decide (ri s.box≤most)
set_option maxHeartbeats 4000000 in
theorem Dh (s:Sy) (hs:zO s) (most:Int):ah ctx 45 [.agg [ae s.box,ax s.rows,aE s.graphs,aA s.cases],.int .i64 most] (.bool (EP s most)):=by
 have h1:=fO s hs;have h2:=Br s.box hs.b;have f2:=kU s.cases;have hb:=hs.b;have hr:=hs.r;have hg:=hs.g;have hc':=hs.c;have hcl:=hs.cl;unfold EP;generalize gJ s=q at *;generalize ri s.box=z at *;obtain⟨b,rs,gs,cs⟩:=s;simp only at *;clear hs;unfold ae at h2;unfold ae ax aE aA at h1;refine ar (C:=ctx) (Fn.of Ib rfl) rfl ?_;unfold Hg;repeat' (first
  |((with_reducible show aH _);first|exact True.intro|(simp only[vb,lb,h1];and_intros<;>first|omega|(simp<;>omega)))
  |((with_reducible show aP _);first|exact True.intro|((try dsimp only[go_sem]);(simp[vb,h1]<;>omega)))
  |exact(rfl:some _=_)
  |(
   fail_if_success refine a7 ?_
   refine iF [(30,fun _=>some (.bool q))] ?_;repeat1' dsimp only[Hg,ae,ax,aE,aA,go_sem]
   first
   |refine a8 ?_ ?_ rfl ?_
   |apply ba
   |apply bc
   |(refine bf (fun hc=>?_) fun hc=>?_<;>first|(cases hc;done)|(try simp only[bn]at hc;try contradiction))
   |skip))
 ·have hr:((((decide (b.length≤12)&&decide (rs.length≤30))&&decide (gs.length≤6))&&decide (cs.length≤12))&&q)=false:=by
   rw[Bool.eq_false_iff];simp only[ne_eq,Bool.and_eq_true,decide_eq_true_eq];rintro⟨⟨⟨⟨a,b⟩,c⟩,d⟩,e⟩;subst e;simp at hc;omega
  rw[hr];rfl
 ·have hr:((((decide (b.length≤12)&&decide (rs.length≤30))&&decide (gs.length≤6))&&decide (cs.length≤12))&&q)=true:=by
   simp only[Bool.and_eq_true,decide_eq_true_eq];obtain⟨⟨⟨⟨a,b⟩,c⟩,d⟩,e⟩:=hc;exact⟨⟨⟨⟨by omega,by omega⟩,by omega⟩,by omega⟩,e⟩
  rw[hr,Bool.true_and];refine bF cs.length (fun k=>(cs.take k).all (fun l=>decide (l.length≤8))=true) (fun k=>[(1,.pv (.int .i64 most)),(2,.ptr 0 0 0),(5,.pv (.int .i64 k))]) (fun _=>[⟨[.pv (ae b),.pv (ax rs),.pv (aE gs),.pv (aA cs)],0,4,36,false⟩]) rfl (by (repeat' (first|exact trivial|refine And.intro (by first|rfl|(simp[get,Nat.beq];done)|(simp[get,Nat.beq];omega)|(dsimp only[get];congr 1<;>first|rfl|omega|(simp;done)|(simp;omega))) ?_))) ⟨_,rfl⟩ (fun _=>⟨Nat.zero_le _,rfl,rfl⟩) fun k hk hP=>?_
  by_cases hlt:k<cs.length
  ·have e:=ma cs k hlt;have i1:=ew (fun l:List Rw=>decide (l.length≤8)) cs k [] hlt;have i2:=l5 (fun l:List Rw=>decide (l.length≤8)) cs k [] hlt;have hx:=hcl _ (aT (d:=([]:List Rw)) hlt);rw[i1,hP,Bool.true_and];clear i1 hcl;generalize cs.getD k []=x at *;repeat' (first
    |((with_reducible show aH _);first|exact True.intro|(simp only[vb,lb,e,f2,hlt];and_intros<;>first|omega|(simp<;>omega)))
    |((with_reducible show aP _);first|exact True.intro|((try dsimp only[go_sem]);(simp[vb,e,f2,hlt]<;>omega)))
    |exact(rfl:some _=_)
    |(
     fail_if_success refine a7 ?_
     refine bJ [(44,{val:=some (.pv (.sl x.length (x.flatMap eZ)))})] ?_;repeat1' dsimp only[Hg,ae,ax,aE,aA,go_sem]
     first
     |refine a8 ?_ ?_ rfl ?_
     |apply ba
     |apply bc
     |(refine bf (fun hc=>?_) fun hc=>?_<;>first|(cases hc;done)|(exfalso;(simp at hc<;>omega))|(try simp only[bn]at hc;try contradiction))
     |skip))
   ·rw[i2 (decide_eq_false (by omega))];rfl
   ·exact⟨hlt,decide_eq_true (by omega),by (repeat' (first|exact trivial|refine And.intro (by first|rfl|(simp[get,Nat.beq];done)|(simp[get,Nat.beq];omega)|(dsimp only[get];congr 1<;>first|rfl|omega|(simp;done)|(simp;omega))) ?_)),_,rfl⟩
  ·obtain rfl:k=cs.length:=by omega
   rw[List.take_length]at hP;rw[hP,Bool.true_and];repeat' (first
    |((with_reducible show aH _);first|exact True.intro|(simp only[vb,lb,hlt,h2];and_intros<;>first|omega|(simp<;>omega)))
    |((with_reducible show aP _);first|exact True.intro|((try dsimp only[go_sem]);(simp[vb,hlt,h2]<;>omega)))
    |exact(rfl:some _=_)
    |(
     fail_if_success refine a7 ?_
     refine iF [(70,fun _=>some (.int .i64 z))] ?_;repeat1' dsimp only[Hg,ae,ax,aE,aA,go_sem]
     first
     |refine a8 ?_ ?_ rfl ?_
     |apply ba
     |apply bc
     |(refine bf (fun hc=>?_) fun hc=>?_<;>first|(cases hc;done)|(exfalso;(simp at hc<;>omega))|(try simp only[bn]at hc;try contradiction))
     |skip))
def Gt (s:Sy) (most:Int):Bool:=if gJ s=true then EP s most else ((decide ((s.box.length:Int)≤20)&&decide ((s.rows.length:Int)≤30))&&decide ((s.graphs.length:Int)≤6))&&decide ((s.cases.length:Int)≤12)
theorem Gu (s:Sy) (hs:zO s) (most:Int):ah ctx 21 [.agg [ae s.box,ax s.rows,aE s.graphs,aA s.cases],.int .i64 most] (.bool (Gt s most)):=by
 have h1:=fO s hs;have h2:=Dh s hs most;have hb:=hs.b;have hr:=hs.r;have hg:=hs.g;have hc':=hs.c;unfold Gt;generalize gJ s=q at *;generalize EP s most=z at *;obtain⟨b,rs,gs,cs⟩:=s;simp only at *;clear hs;unfold ae ax aE aA at h1 h2;cases q with
 |true =>
  refine ar (C:=ctx) (Fn.of Hh rfl) rfl ?_;unfold c21;repeat' (first
   |((with_reducible show aH _);first|exact True.intro|(simp only[vb,lb,h1,h2];and_intros<;>first|omega|(simp<;>omega)))
   |((with_reducible show aP _);first|exact True.intro|((try dsimp only[go_sem]);(simp[vb,h1,h2]<;>omega)))
   |exact(rfl:some _=_)
   |(
    fail_if_success refine a7 ?_
    refine iF [(30,fun _=>some (.bool true)),(45,fun _=>some (.bool z))] ?_;repeat1' dsimp only[c21,ae,ax,aE,aA,go_sem]
    first
    |refine a8 ?_ ?_ rfl ?_
    |apply ba
    |apply bc
    |(refine bf (fun hc=>?_) fun hc=>?_<;>first|(cases hc;done)|(try simp only[bn]at hc;try contradiction))
    |skip))
 |false =>
  refine ar (C:=ctx) (Fn.of Hh rfl) rfl ?_;unfold c21;repeat' (first
   |((with_reducible show aH _);first|exact True.intro|(simp only[vb,lb,h1];and_intros<;>first|omega|(simp<;>omega)))
   |((with_reducible show aP _);first|exact True.intro|((try dsimp only[go_sem]);(simp[vb,h1]<;>omega)))
   |exact(rfl:some _=_)
   |(
    fail_if_success refine a7 ?_
    refine iF [(30,fun _=>some (.bool false))] ?_;repeat1' dsimp only[c21,ae,ax,aE,aA,go_sem]
    first
    |refine a8 ?_ ?_ rfl ?_
    |apply ba
    |apply bc
    |(refine bf (fun hc=>?_) fun hc=>?_<;>first|(cases hc;done)|(try simp only[bn]at hc;try contradiction))
    |skip))
  simp only[lq];rfl
end
end Pur
end
section
namespace Rf
theorem qA (v:List Int):∀(l m:List Tm),fR v (l++m)=fR v l+fR v m
 |[],m=>by simp[fR]
 |t::r,m=>by rw[List.cons_append,fR,fR,qA v r m];omega
theorem zV {v:List Int} (hv:∀k,-1000000≤v.getD k 0∧v.getD k 0≤1000000):∀(l:List Tm),(∀t∈l,-1000≤t.fac∧t.fac≤1000)→ -(1000000000*(l.length:Int))≤fR v l∧fR v l≤1000000000*(l.length:Int)
 |[],_=>by simp[fR]
 |t::r,h=>by
  have ih:=zV hv r fun x hx=>h x (by simp[hx])
  have h0:=h t (by simp);have h1:=hv t.cell.toNat;have:=vm h0.1 h0.2 h1.1 h1.2;rw[fR,List.length_cons];omega
theorem eM.bd {b:List Rg} {v:List Int} (h:eM b v) (hb:eh b=true) (k:Nat): -1000000≤v.getD k 0∧v.getD k 0≤1000000:=by
 by_cases hk:k<b.length
 ·have h1:=h.at_ k hk;have h2:=o8 (kC hb k);omega
 ·rw[pd v k 0 (by rw[h.len];exact hk)];omega
theorem eM.inside {b:List Rg} {v:List Int} (h:eM b v) (k:Nat) (hk:k<b.length):Pur.aK (v.getD k 0) (b.getD k zr).lo (b.getD k zr).hi=true:=by
 have:=h.at_ k hk;simp only[Pur.aK,Bool.and_eq_true,decide_eq_true_eq];exact this
end Rf
namespace Pur
open Go.RowKit
attribute [local go_sem] bI fa bR bu cS gf List.map aX aG get put tmpsOf dF iW gF iG conds ev cond_true cond_false Nat.beq Nat.ble Nat.add quiet dG cf cF pn List.append_eq List.nil_append List.cons_append dE cy cz cA cB cC cD fg eY dv jb dH calm quiet.isCallK cH List.getElem?_cons_zero List.getElem?_cons_succ bp b6 cellsOf List.all bC List.length_cons List.length_nil eP a6 List.drop List.take List.getD Option.getD_some qR qS qF qT qU qV eB gC eC eD setAt List.set Nat.reduceAdd Nat.reduceMul b9 bw refsOf bG bM scalar cd ef bL ca aN after freeze im gT aS dx dQ dt eH c6 c7 cj da db de dh di dj dk dm dn dp dq ck cp cu dw jc bytesOf bH cU aQ bD dS bA bT cI still bW ed dy dW bP eI List.isEmpty cv cw cx Int.reduceToNat Nat.mul_one Nat.reduceSub oM cV b7 dK cG look dL strip guarded fV eK eO cK dV cY hJ dc dd Bool.or_false Bool.or_true Bool.and_true Bool.and_false Nat.blt gg fx gq dD idxOf gU gV iX eV aN mI
open Rf
def Hi:ay:=(⟨_,by conv=>(lhs;reduce;try simp only[eA,Int.cast_ofNat_Int,Int.reduceNegSucc,UInt8.reduceOfNat])⟩:{x // codeOf Tryz.prog 92 (fun _=>false)=some x}).1
theorem Ic:bK Tryz.prog 92 (fun _=>false)=some (Hi,[.t 4],33,true):=by kernel_rfl
def Di:ay:=(⟨_,by conv=>(lhs;reduce;try simp only[eA,Int.cast_ofNat_Int,Int.reduceNegSucc,UInt8.reduceOfNat])⟩:{x // codeOf Tryz.prog 120 (fun _=>false)=some x}).1
theorem Hj:bK Tryz.prog 120 (fun _=>false)=some (Di,[.t 4],33,true):=by kernel_rfl
def Dj:ay:=(⟨_,by conv=>(lhs;reduce;try simp only[eA,Int.cast_ofNat_Int,Int.reduceNegSucc,UInt8.reduceOfNat])⟩:{x // codeOf Tryz.prog 122 (fun d=>Nat.beq d 7)=some x}).1
theorem Hk:bK Tryz.prog 122 (fun d=>Nat.beq d 7)=some (Dj,[.t 4],34,true):=by kernel_rfl
def Hl:ay:=(⟨_,by conv=>(lhs;reduce;try simp only[eA,Int.cast_ofNat_Int,Int.reduceNegSucc,UInt8.reduceOfNat])⟩:{x // codeOf Tryz.prog 62 (fun d=>Nat.beq d 5)=some x}).1
theorem Ie:bK Tryz.prog 62 (fun d=>Nat.beq d 5)=some (Hl,[.t 2],21,true):=by kernel_rfl
def c119:ay:=(⟨_,by conv=>(lhs;reduce;try simp only[eA,Int.cast_ofNat_Int,Int.reduceNegSucc,UInt8.reduceOfNat])⟩:{x // codeOf Tryz.prog 119 (fun _=>false)=some x}).1
theorem Hm:bK Tryz.prog 119 (fun _=>false)=some (c119,[.t 4],35,true):=by kernel_rfl
theorem Dk (b:List Rg) (i:Nat) (h:i<b.length):(b.flatMap jM)[i*2+1]?.getD default= .int .i64 (b.getD i zr).hi:=by
 rw[bZ iS b i zr 1 h (by omega)];rfl
theorem ER (l:List Tm) (i:Nat) (h:i<l.length):(l.flatMap kG)[i*2]?.getD default= .int .i64 (l.getD i zm).cell:=by
 have:=bZ kT l i zm 0 h (by omega);rw[Nat.add_zero]at this;rw[this];rfl
theorem Gv (l:List Tm) (i:Nat) (h:i<l.length):(l.flatMap kG)[i*2+1]?.getD default= .int .i64 (l.getD i zm).fac:=by
 rw[bZ kT l i zm 1 h (by omega)];rfl
set_option maxHeartbeats 4000000 in
theorem qB (b:List Rg) (v:List Int) (hb:b.length≤1000000000) (hv:eM b v):ah ctx 92 [ae b,aa v] (.bool true):=by
 have f1:=cJ v;have f2:=du b;have hl:=hv.len;refine ar (C:=ctx) (Fn.of Ic rfl) rfl ?_;unfold Hi;repeat' (first
  |((with_reducible show aH _);exact True.intro)
  |((with_reducible show aP _);exact True.intro)
  |exact(rfl:some _=_)
  |(
   fail_if_success refine a7 ?_
   refine aV ?_;repeat1' dsimp only[Hi,ae,aa,go_sem]
   first
   |refine a8 ?_ ?_ rfl ?_
   |apply ba
   |apply bc
   |(refine bf (fun hc=>?_) fun hc=>?_<;>first|(cases hc;done)|(exfalso;(simp at hc<;>omega))|(try simp only[bn]at hc;try contradiction))
   |skip))
 refine bF b.length (fun _=>True) (fun k=>[(0,.pv (ae b)),(1,.pv (aa v)),(5,.pv (.int .i64 k))]) (fun _=>[]) trivial (by (repeat' (first|exact trivial|refine And.intro (by first|rfl|(simp[get,Nat.beq];done)|(simp[get,Nat.beq];omega)|(dsimp only[get];congr 1<;>first|rfl|omega|(simp;done)|(simp;omega))) ?_))) ⟨_,rfl⟩ (fun _=>⟨Nat.zero_le _,rfl,rfl⟩) fun k hk _=>?_
 by_cases hlt:k<b.length
 ·have e1:=iu (g:=bS) (fun _=>rfl) v k 0 default (by omega);have e2:=oo b k hlt;have e3:=Dk b k hlt;have hi:=pj (v.getD k 0) (b.getD k zr).lo (b.getD k zr).hi;rw[hv.inside k hlt]at hi;have hlv:k<v.length:=by omega
  generalize v.getD k 0=x at *;generalize (b.getD k zr).lo=y at *;generalize (b.getD k zr).hi=z at *;repeat' (first
   |((with_reducible show aH _);first|exact True.intro|(simp only[vb,lb,e1,e2,e3,f1,f2,hlt,hlv,hi];and_intros<;>first|omega|(simp<;>omega)))
   |((with_reducible show aP _);first|exact True.intro|((try dsimp only[go_sem]);(simp only[vb,and_true,true_implies];(repeat' (first|(with_reducible assumption)|(with_reducible apply And.intro)|intro _|((fail_if_success (with_reducible show(_:Int)≤_));assumption)))<;>(simp only[ab,e1,e2,e3,f1,f2,hlt,hlv,hi];done))))
   |exact(rfl:some _=_)
   |(
    fail_if_success refine a7 ?_
    refine eW [(90,fun _=>some (.bool true))] [(20,{val:=some (.pv (.int .i64 x))}),(25,{val:=some (.pv (.int .i64 y))}),(30,{val:=some (.pv (.int .i64 z))})] ?_;repeat1' dsimp only[Hi,ae,aa,go_sem]
    first
    |refine a8 ?_ ?_ rfl ?_
    |apply ba
    |apply bc
    |(refine bf (fun hc=>?_) fun hc=>?_<;>first|(cases hc;done)|(exfalso;(simp at hc<;>omega))|(try simp only[bn]at hc;try contradiction))
    |skip))
  exact⟨hlt,trivial,by (repeat' (first|exact trivial|refine And.intro (by first|rfl|(simp[get,Nat.beq];done)|(simp[get,Nat.beq];omega)|(dsimp only[get];congr 1<;>first|rfl|omega|(simp;done)|(simp;omega))) ?_)),_,rfl⟩
 ·obtain rfl:k=b.length:=by omega
  repeat' (first
   |((with_reducible show aH _);exact True.intro)
   |((with_reducible show aP _);exact True.intro)
   |exact(rfl:some _=_)
   |(
    fail_if_success refine a7 ?_
    refine aV ?_;repeat1' dsimp only[Hi,ae,aa,go_sem]
    first
    |refine a8 ?_ ?_ rfl ?_
    |apply ba
    |apply bc
    |(refine bf (fun hc=>?_) fun hc=>?_<;>first|(cases hc;done)|(exfalso;(simp at hc<;>omega))|(try simp only[bn]at hc;try contradiction))
    |skip))
set_option maxHeartbeats 4000000 in
theorem xw (v:List Int) (r:Rw) (hv:∀k,-1000000≤v.getD k 0∧v.getD k 0≤1000000) (hr:gD v.length r=true) (hl:r.terms.length≤1000000000):ah ctx 120 [.agg [au r.terms,.int .i64 r.bound],aa v] (.int .i64 (fR v r.terms)):=by
 have f1:=cJ v;have f2:=jn r.terms;simp only[gD,Bool.and_eq_true]at hr;have hm:=(jK v.length r.terms (-1) (by omega) hr.1).2;obtain⟨ts,bd⟩:=r;simp only at *;clear hr;refine ar (C:=ctx) (Fn.of Hj rfl) rfl ?_;unfold Di;repeat' (first
  |((with_reducible show aH _);exact True.intro)
  |((with_reducible show aP _);exact True.intro)
  |exact(rfl:some _=_)
  |(
   fail_if_success refine a7 ?_
   refine aV ?_;repeat1' dsimp only[Di,au,aa,go_sem]
   first
   |refine a8 ?_ ?_ rfl ?_
   |apply ba
   |apply bc
   |(refine bf (fun hc=>?_) fun hc=>?_<;>first|(cases hc;done)|(try simp only[bn]at hc;try contradiction))
   |skip))
 refine bF ts.length (fun _=>True) (fun k=>[(1,.pv (aa v)),(2,.ptr 0 0 0),(5,.pv (.int .i64 (fR v (ts.take k)))),(6,.pv (.int .i64 k))]) (fun _=>[⟨[.pv (au ts),.pv (.int .i64 bd)],0,2,62,false⟩]) trivial (by (repeat' (first|exact trivial|refine And.intro (by first|rfl|(simp[get,Nat.beq,fR];done)|(simp[get,Nat.beq,fR];omega)|(dsimp only[get];congr 1<;>first|rfl|omega|(simp;done)|(simp;omega))) ?_))) ⟨_,rfl⟩ (fun _=>⟨Nat.zero_le _,rfl,rfl⟩) fun k hk _=>?_
 by_cases hlt:k<ts.length
 ·have e1:=ER ts k hlt;have e2:=Gv ts k hlt;have h1:=qA v (ts.take k) [ts.getD k zm];rw[←bz ts k zm hlt,fR,fR]at h1;have h2:=zV hv (ts.take k) fun t ht=>by have:=hm t (List.mem_of_mem_take ht);omega
  rw[List.length_take]at h2;have hq:=hm _ (aT (d:=zm) hlt);rw[h1];clear h1 hm;generalize ts.getD k zm=x at *;generalize fR v (ts.take k)=sm at *;obtain⟨q1,q2,q3,q4,q5,q6⟩:=hq;obtain⟨cn,hcn⟩:∃cn:Nat,x.cell=cn:=⟨x.cell.toNat,by omega⟩
  have hcl:cn<v.length:=by omega
  have e3:=iu (g:=bS) (fun _=>rfl) v cn 0 default hcl;have hbd:=hv cn;rw[hcn]at e1;rw[hcn,Int.toNat_natCast];generalize v.getD cn 0=y at *;have hmu:=vm (show -1000≤x.fac by omega) (by omega) hbd.1 hbd.2;generalize hpr:x.fac*y=pr at *;repeat' (first
   |((with_reducible show aH _);(simp only[vb,lb,e1,e2,e3,f1,f2,hlt,hcl,hpr];and_intros<;>first|omega|(simp<;>omega)))
   |((with_reducible show aP _);first|exact True.intro|((try dsimp only[go_sem]);(simp only[vb,and_true,true_implies];(repeat' (first|(with_reducible assumption)|(with_reducible apply And.intro)|intro _|((fail_if_success (with_reducible show(_:Int)≤_));assumption)))<;>(simp only[ab,e1,e2,e3,f1,f2,hlt,hcl,hpr];done))))
   |exact(rfl:some _=_)
   |(
    fail_if_success refine a7 ?_
    refine bJ [(20,{val:=some (.pv (.int .i64 x.fac))}),(27,{val:=some (.pv (.int .i64 cn))}),(29,{val:=some (.pv (.int .i64 y))}),(30,{val:=some (.pv (.int .i64 pr))})] ?_;repeat1' dsimp only[Di,au,aa,go_sem]
    first
    |refine a8 ?_ ?_ rfl ?_
    |apply ba
    |apply bc
    |(refine bf (fun hc=>?_) fun hc=>?_<;>first|(cases hc;done)|(exfalso;(simp at hc<;>omega))|(try simp only[bn]at hc;try contradiction))
    |skip))
  exact⟨hlt,trivial,by (repeat' (first|exact trivial|refine And.intro (by first|rfl|(simp[get,Nat.beq];done)|(simp[get,Nat.beq];omega)|(dsimp only[get];congr 1<;>first|rfl|omega|(simp;done)|(simp;omega))) ?_)),_,rfl⟩
 ·obtain rfl:k=ts.length:=by omega
  rw[List.take_length];repeat' (first
   |((with_reducible show aH _);first|exact True.intro|(simp only[vb,lb,hlt];and_intros<;>first|omega|(simp<;>omega)))
   |((with_reducible show aP _);exact True.intro)
   |exact(rfl:some _=_)
   |(
    fail_if_success refine a7 ?_
    refine aV ?_;repeat1' dsimp only[Di,au,aa,go_sem]
    first
    |refine a8 ?_ ?_ rfl ?_
    |apply ba
    |apply bc
    |(refine bf (fun hc=>?_) fun hc=>?_<;>first|(cases hc;done)|(exfalso;(simp at hc<;>omega))|(try simp only[bn]at hc;try contradiction))
    |skip))
set_option maxHeartbeats 4000000 in
theorem Dl (v:List Int) (g:Gr) (hg:bX v.length g=true) (hb:v.length≤1000000000):ah ctx 122 [.agg [.int .i64 g.first,.int .i64 g.size,aa g.least],aa v] (bE (eG g v)):=by
 simp only[bX,aK,Bool.and_eq_true,decide_eq_true_eq]at hg;obtain⟨⟨⟨⟨⟨g1,g2⟩,g3⟩,g4⟩,g5⟩,g6⟩:=hg;have hsq:=sW g1 g2;obtain⟨fi,hfi⟩:∃fi:Nat,g.first=fi:=⟨g.first.toNat,by omega⟩
 have hpl:=sY g v;have hat:=qd g v;have f1:=cJ g.least;have f2:=cJ v;obtain⟨_,n,le⟩:=g;simp only at *;subst hfi;generalize eG ⟨fi,n,le⟩ v=ps at *;refine ar (C:=ctx) (Fn.of Hk rfl) rfl ?_;unfold Dj;repeat' (first
  |((with_reducible first|show aH _|show aP _);simp[vb]<;>omega)
  |exact(rfl:some _=_)
  |(
   fail_if_success refine a7 ?_
   refine aV ?_;repeat1' dsimp only[Dj,aa,go_sem]
   first
   |refine a8 ?_ ?_ rfl ?_
   |apply ba
   |apply bc
   |(refine bf (fun hc=>?_) fun hc=>?_<;>first|(cases hc;done)|(exfalso;simp at hc<;>omega)|(try simp only[bn]at hc;try contradiction))
   |skip))
 refine bF le.length (fun _=>True) (fun j=>[(1,.pv (aa v)),(2,.ptr 0 0 0),(5,.ref 1 j 0 j),(6,.pv (.int .i64 j))]) (fun j=>[⟨[.pv (.int .i64 fi),.pv (.int .i64 n),.pv (aa le)],0,3,99,false⟩,⟨((ps.take j).flatMap dT).map .pv,j,1,4,false⟩]) trivial (by (repeat' (first|exact trivial|refine And.intro (by first|rfl|(simp[get,Nat.beq];done)|(simp[get,Nat.beq];omega)|(dsimp only[get];congr 1<;>first|rfl|omega|(simp;done)|(simp;omega))) ?_))) ⟨[],rfl⟩ (fun _=>⟨Nat.zero_le _,rfl,by simp[aM,dA]⟩) fun j hk _=>?_
 by_cases hlt:j<le.length
 ·have hlt2:fi+j<v.length:=by omega
  have e1:=iu (g:=bS) (fun _=>rfl) le j 0 default hlt;have e2:=iu (g:=bS) (fun _=>rfl) v (fi+j) 0 default hlt2;have e3:=hat j hlt;have e6:((fi:Int)+(j:Int))=((fi+j:Nat):Int):=by simp
  have hs:=bz ps j false (by omega);have e7:=eN (ps.take j);have hl:(ps.take j).length=j:=by rw[List.length_take];omega
  rw[Int.toNat_natCast]at e3;rw[hs,e3];rw[hl]at e7;clear hs e3 hat;generalize ps.take j=w at *;generalize le.getD j 0=lj at *;generalize v.getD (fi+j) 0=lo at *;repeat' (first
   |((with_reducible show aH _);(simp only[vb,lb,e1,e2,e7,hlt,hlt2,hpl,f1,f2,g5];and_intros<;>first|omega|(simp<;>omega)))
   |((with_reducible show aP _);first|exact True.intro|((try dsimp only[go_sem]);first|(simp[vb,e1,e2,e7,hlt,hlt2,hpl,f1,f2,g5]<;>omega)|(simp only[vb,and_true,true_implies];(repeat' (first|(with_reducible assumption)|(with_reducible apply And.intro)|intro _|((fail_if_success (with_reducible show(_:Int)≤_));assumption)))<;>first|rfl|(simp only[ab,e1,e2,e7,hlt,hlt2,hpl,f1,f2,g5];done))))
   |exact(rfl:some _=_)
   |(
    fail_if_success refine a7 ?_
    refine bJ [(14,{val:=some (.pv (.bool true))}),(22,{val:=some (.pv (.int .i64 (fi+j:Nat)))}),(24,{val:=some (.pv (.int .i64 lo))}),(29,{val:=some (.pv (.int .i64 lj))}),(32,{mode:=1})] ?_;repeat1' dsimp only[Dj,aa,go_sem]
    first
    |refine a8 ?_ ?_ rfl ?_
    |apply ba
    |apply bc
    |(refine bf (fun hc=>?_) fun hc=>?_<;>first|(cases hc;done)|(try simp only[bn]at hc;try contradiction))
    |skip))
  exact⟨hlt,trivial,by (repeat' (first|exact trivial|refine And.intro (by first|rfl|(simp[get,Nat.beq];done)|(simp[get,Nat.beq];omega)|(dsimp only[get];congr 1<;>first|rfl|omega|(simp;done)|(simp;omega))) ?_)),[],by simp[List.flatMap_append,dT]⟩
 ·obtain rfl:j=le.length:=by omega
  have ht:ps.take le.length=ps:=List.take_of_length_le (by omega);simp only[ht];have f3:=eN ps;repeat' (first
   |((with_reducible show aH _);first|exact True.intro|(simp only[vb,lb,hlt,g5];and_intros<;>first|omega|(simp<;>omega)))
   |((with_reducible show aP _);first|exact True.intro|((try dsimp only[go_sem]);(simp[vb,hlt,g5]<;>omega)))
   |exact(rfl:some _=_)
   |(
    fail_if_success refine a7 ?_
    refine bJ [(14,{val:=some (.pv (.bool false))})] ?_;repeat1' dsimp only[Dj,aa,go_sem]
    first
    |refine a8 ?_ ?_ rfl ?_
    |apply ba
    |apply bc
    |(refine bf (fun hc=>?_) fun hc=>?_<;>first|(cases hc;done)|(try simp only[bn]at hc;try contradiction))
    |skip))
  unfold bE;rw[hpl];exact lp rfl rfl rfl (by rw[List.drop_zero,List.take_of_length_le (by simp only[List.length_map];omega)]) (by simp only[List.length_map];omega)
set_option maxHeartbeats 4000000 in
theorem Dm (b:List Rg) (hb:b.length≤1000000000):ah ctx 62 [ae b] (aa (jQ b)):=by
 have f2:=du b;have hl:(jQ b).length=b.length:=by simp[jQ]
 have hat:=fun k h=>vq b k h
 refine ar (C:=ctx) (Fn.of Ie rfl) rfl ?_;unfold Hl;repeat' (first
  |((with_reducible first|show aH _|show aP _);simp[vb]<;>omega)
  |exact(rfl:some _=_)
  |(
   fail_if_success refine a7 ?_
   refine aV ?_;repeat1' dsimp only[Hl,ae,go_sem]
   first
   |refine a8 ?_ ?_ rfl ?_
   |apply ba
   |apply bc
   |(refine bf (fun hc=>?_) fun hc=>?_<;>first|(cases hc;done)|(exfalso;simp at hc<;>omega)|(try simp only[bn]at hc;try contradiction))
   |skip))
 refine bF b.length (fun _=>True) (fun k=>[(0,.pv (ae b)),(3,.ref 0 k 0 k),(4,.pv (.int .i64 k))]) (fun k=>[⟨(((jQ b).take k).flatMap bS).map .pv,k,1,3,false⟩]) trivial (by (repeat' (first|exact trivial|refine And.intro (by first|rfl|(simp[get,Nat.beq];done)|(simp[get,Nat.beq];omega)|(dsimp only[get];congr 1<;>first|rfl|omega|(simp;done)|(simp;omega))) ?_))) ⟨[],rfl⟩ (fun _=>⟨Nat.zero_le _,rfl,by simp[aM,dA]⟩) fun k hk _=>?_
 by_cases hlt:k<b.length
 ·have e:=oo b k hlt;have hs:=bz (jQ b) k 0 (by omega);rw[hat k hlt]at hs;have e7:=cJ ((jQ b).take k);have hll:((jQ b).take k).length=k:=by rw[List.length_take];omega
  rw[hll]at e7;rw[hs];clear hs hat;generalize (b.getD k zr).lo=x at *;generalize (jQ b).take k=w at *;repeat' (first
   |((with_reducible show aH _);first|exact True.intro|(simp only[vb,lb,e,e7,f2,hlt];and_intros<;>first|omega|(simp<;>omega)))
   |((with_reducible show aP _);first|exact True.intro|((try dsimp only[go_sem]);(simp only[vb,and_true,true_implies];(repeat' (first|(with_reducible assumption)|(with_reducible apply And.intro)|intro _|((fail_if_success (with_reducible show(_:Int)≤_));assumption)))<;>(simp only[ab,e,e7,f2,hlt];done))))
   |exact(rfl:some _=_)
   |(
    fail_if_success refine a7 ?_
    refine bJ [(17,{val:=some (.pv (.int .i64 x))}),(19,{mode:=1})] ?_;repeat1' dsimp only[Hl,ae,go_sem]
    first
    |refine a8 ?_ ?_ rfl ?_
    |apply ba
    |apply bc
    |(refine bf (fun hc=>?_) fun hc=>?_<;>first|(cases hc;done)|(exfalso;(simp at hc<;>omega))|(try simp only[bn]at hc;try contradiction))
    |skip))
  exact⟨hlt,trivial,by (repeat' (first|exact trivial|refine And.intro (by first|rfl|(simp[get,Nat.beq];done)|(simp[get,Nat.beq];omega)|(dsimp only[get];congr 1<;>first|rfl|omega|(simp;done)|(simp;omega))) ?_)),[],by simp[List.flatMap_append,bS]⟩
 ·obtain rfl:k=b.length:=by omega
  have ht:(jQ b).take b.length=jQ b:=List.take_of_length_le (by omega);simp only[ht];have f3:=cJ (jQ b);repeat' (first
   |((with_reducible show aH _);exact True.intro)
   |((with_reducible show aP _);exact True.intro)
   |exact(rfl:some _=_)
   |(
    fail_if_success refine a7 ?_
    refine aV ?_;repeat1' dsimp only[Hl,ae,go_sem]
    first
    |refine a8 ?_ ?_ rfl ?_
    |apply ba
    |apply bc
    |(refine bf (fun hc=>?_) fun hc=>?_<;>first|(cases hc;done)|(exfalso;(simp at hc<;>omega))|(try simp only[bn]at hc;try contradiction))
    |skip))
  unfold aa;rw[hl];exact lp rfl rfl rfl (by rw[List.drop_zero,List.take_of_length_le (by simp only[List.length_map];omega)]) (by simp only[List.length_map];omega)
set_option maxHeartbeats 4000000 in
theorem xx (s:Sy) (hs:zO s) (hk:gJ s=true) (v:List Int) (hv:eM s.box v) (hbd:∀k,-1000000≤v.getD k 0∧v.getD k 0≤1000000):ah ctx 119 [.agg [ae s.box,ax s.rows,aE s.graphs,aA s.cases],aa v] (.bool true):=by
 have h1:=fO s hs;have hl:=hv.len;have hb:=hs.b;rw[hk]at h1;have f1:=cJ v;unfold ae ax aE aA at h1;refine ar (C:=ctx) (Fn.of Hm rfl) rfl ?_;unfold c119;repeat' (first
  |((with_reducible show aH _);first|exact True.intro|(simp only[vb,lb,h1,hl];and_intros<;>first|omega|(simp<;>omega)))
  |((with_reducible show aP _);first|exact True.intro|((try dsimp only[go_sem]);(simp[vb,h1,hl]<;>omega)))
  |exact(rfl:some _=_)
  |(
   fail_if_success refine a7 ?_
   refine iF [(30,fun _=>some (.bool true))] ?_;repeat1' dsimp only[c119,ae,ax,aE,aA,aa,go_sem]
   first
   |refine a8 ?_ ?_ rfl ?_
   |apply ba
   |apply bc
   |(refine bf (fun hc=>?_) fun hc=>?_<;>first|(cases hc;done)|(exfalso;(simp at hc<;>omega))|(try simp only[bn]at hc;try contradiction))
   |skip))
 refine bF v.length (fun _=>True) (fun k=>[(1,.pv (aa v)),(2,.ptr 0 0 0),(5,.pv (.int .i64 k))]) (fun _=>[⟨[.pv (ae s.box),.pv (ax s.rows),.pv (aE s.graphs),.pv (aA s.cases)],0,4,36,false⟩]) trivial (by (repeat' (first|exact trivial|refine And.intro (by first|rfl|(simp[get,Nat.beq];done)|(simp[get,Nat.beq];omega)|(dsimp only[get];congr 1<;>first|rfl|omega|(simp;done)|(simp;omega))) ?_))) ⟨_,rfl⟩ (fun _=>⟨Nat.zero_le _,rfl,rfl⟩) fun k hk _=>?_
 by_cases hlt:k<v.length
 ·have e1:=iu (g:=bS) (fun _=>rfl) v k 0 default hlt;have hx:=hbd k;generalize v.getD k 0=x at *;have x1:¬x< -4000000:=by omega
  have x2:¬4000000<x:=by omega
  repeat' (first
   |((with_reducible show aH _);first|exact True.intro|(simp only[vb,lb,e1,f1,hlt,x1,x2];and_intros<;>first|omega|(simp<;>omega)))
   |((with_reducible show aP _);first|exact True.intro|((try dsimp only[go_sem]);(simp only[vb,and_true,true_implies];(repeat' (first|(with_reducible assumption)|(with_reducible apply And.intro)|intro _|((fail_if_success (with_reducible show(_:Int)≤_));assumption)))<;>first|omega|(simp only[ab,e1,f1,hlt,x1,x2];done)|(simp[Nat.mul_one,e1,f1,hlt,x1,x2]<;>omega))))
   |exact(rfl:some _=_)
   |(
    fail_if_success refine a7 ?_
    refine bJ [(26,{val:=some (.pv (.int .i64 x))}),(27,{val:=some (.pv (.bool false))}),(32,{val:=some (.pv (.int .i64 x))}),(33,{val:=some (.pv (.bool false))})] ?_;repeat1' dsimp only[c119,ae,ax,aE,aA,aa,go_sem]
    first
    |refine a8 ?_ ?_ rfl ?_
    |apply ba
    |apply bc
    |(refine bf (fun hc=>?_) fun hc=>?_<;>first|(cases hc;done)|(exfalso;(simp at hc<;>omega))|(try simp only[bn]at hc;try contradiction))
    |skip))
  exact⟨hlt,trivial,by (repeat' (first|exact trivial|refine And.intro (by first|rfl|(simp[get,Nat.beq];done)|(simp[get,Nat.beq];omega)|(dsimp only[get];congr 1<;>first|rfl|omega|(simp;done)|(simp;omega))) ?_)),_,rfl⟩
 ·obtain rfl:k=v.length:=by omega
  repeat' (first
   |((with_reducible show aH _);exact True.intro)
   |((with_reducible show aP _);exact True.intro)
   |exact(rfl:some _=_)
   |(
    fail_if_success refine a7 ?_
    refine aV ?_;repeat1' dsimp only[c119,ae,ax,aE,aA,aa,go_sem]
    first
    |refine a8 ?_ ?_ rfl ?_
    |apply ba
    |apply bc
    |(refine bf (fun hc=>?_) fun hc=>?_<;>first|(cases hc;done)|(exfalso;(simp at hc<;>omega))|(try simp only[bn]at hc;try contradiction))
    |skip))
end Pur
end
section
namespace Rf
theorem Dn {b:List Rg} {v:List Int} {i:Nat} (hv:v.length=b.length) (hi:i<b.length) (k:Nat) (hk:k<b.length):(yP b v i).take (k+1)=(yP b v i).take k++[if k<i then v.getD k 0 else if k=i then v.getD i 0+1 else (b.getD k zr).lo]:=by
 rw[Pur.bz _ k 0 (by rw[vt hv hi];exact hk),C8 hv hi k hk]
end Rf
namespace Pur
open Go.RowKit
attribute [local go_sem] bI fa bR bu cS gf List.map aX aG get put tmpsOf dF iW gF iG conds ev cond_true cond_false Nat.beq Nat.ble Nat.add quiet dG cf cF pn List.append_eq List.nil_append List.cons_append dE cy cz cA cB cC cD fg eY dv jb dH calm quiet.isCallK cH List.getElem?_cons_zero List.getElem?_cons_succ bp b6 cellsOf List.all bC List.length_cons List.length_nil eP a6 List.drop List.take List.getD Option.getD_some qR qS qF qT qU qV eB gC eC eD setAt List.set Nat.reduceAdd Nat.reduceMul b9 bw refsOf bG bM scalar cd ef bL ca aN after freeze im gT aS dx dQ dt eH c6 c7 cj da db de dh di dj dk dm dn dp dq ck cp cu dw jc bytesOf bH cU aQ bD dS bA bT cI still bW ed dy dW bP eI List.isEmpty cv cw cx Int.reduceToNat Nat.mul_one Nat.reduceSub oM cV b7 dK cG look dL strip guarded fV eK eO cK dV cY hJ dc dd Bool.or_false Bool.or_true Bool.and_true Bool.and_false Nat.blt gg fx gq dD idxOf gU gV iX eV aN mI
open Rf
def Dv:ay:=(⟨_,by conv=>(lhs;reduce;try simp only[eA,Int.cast_ofNat_Int,Int.reduceNegSucc,UInt8.reduceOfNat])⟩:{x // codeOf Tryz.prog 64 (fun d=>Nat.beq d 35)=some x}).1
theorem Ig:bK Tryz.prog 64 (fun d=>Nat.beq d 35)=some (Dv,[.t 4,.t 5],74,true):=by kernel_rfl
def nt:ay:=(⟨_,by conv=>(lhs;reduce;try simp only[eA,Int.cast_ofNat_Int,Int.reduceNegSucc,UInt8.reduceOfNat])⟩:{x // codeOf Tryz.prog 121 (fun d=>Nat.beq d 12)=some x}).1
theorem Hn:bK Tryz.prog 121 (fun d=>Nat.beq d 12)=some (nt,[.t 4],63,true):=by kernel_rfl
def uv (w:Option (List Int)):PV:=match w with
 |some w=>.tup [aa w,.bool true]
 |none=>.tup [.nilsl,.bool false]
set_option maxHeartbeats 8000000 in
theorem ES (b:List Rg) (v:List Int) (hb:eh b=true) (hv:eM b v):ah ctx 64 [ae b,aa v] (uv (nK b v b.length)):=by
 have hbl:b.length≤128:=by
  simp only[eh,Bool.and_eq_true,decide_eq_true_eq]at hb;exact hb.2
 have h1:=nq b (by omega);have h2:=qB b v (by omega) hv;rw[hb]at h1;have f1:=cJ v;have f2:=du b;have hl:=hv.len;unfold ae at h1 h2;unfold aa at h2;generalize hr:nK b v b.length=res;refine ar (C:=ctx) (Fn.of Ig rfl) rfl ?_;unfold Dv;repeat' (first
  |((with_reducible show aH _);first|exact True.intro|(simp only[vb,lb,h1,h2];and_intros<;>first|omega|(simp<;>omega)))
  |((with_reducible show aP _);first|exact True.intro|((try dsimp only[go_sem]);(simp[vb,h1,h2]<;>omega)))
  |exact(rfl:some _=_)
  |(
   fail_if_success refine a7 ?_
   refine iF [(60,fun _=>some (.bool true)),(92,fun _=>some (.bool true))] ?_;repeat1' dsimp only[Dv,ae,aa,go_sem]
   first
   |refine a8 ?_ ?_ rfl ?_
   |apply ba
   |apply bc
   |(refine bf (fun hc=>?_) fun hc=>?_<;>first|(cases hc;done)|(try simp only[bn]at hc;try contradiction))
   |skip))
 refine dY (σ:=Nat) (fun k=>k≤b.length∧nK b v k=res) (fun k=>[(0,.pv (ae b)),(1,.pv (aa v)),(6,.pv (.int .i64 (k-1:Int)))]) (fun _=>[]) (fun k=>k) b.length ⟨Nat.le_refl _,hr⟩ (by (repeat' (first|exact trivial|refine And.intro (by first|rfl|(simp[get,Nat.beq];done)|(simp[get,Nat.beq];omega)|(dsimp only[get];congr 1<;>first|rfl|omega|(simp;done)|(simp;omega))) ?_))) ⟨_,rfl⟩ (fun _ _=>⟨Nat.zero_le _,rfl,rfl⟩) fun k hq=>?_
 obtain⟨q1,q2⟩:=hq;clear h1 h2 hr;cases k with
 |zero =>
  rw[nK]at q2;subst q2;repeat' (first
   |((with_reducible show aH _);exact True.intro)
   |((with_reducible show aP _);exact True.intro)
   |exact(rfl:some _=_)
   |(
    fail_if_success refine a7 ?_
    refine aV ?_;repeat1' dsimp only[Dv,ae,aa,uv,go_sem]
    first
    |refine a8 ?_ ?_ rfl ?_
    |apply ba
    |apply bc
    |(refine bf (fun hc=>?_) fun hc=>?_<;>first|(cases hc;done)|(try simp only[bn]at hc;try contradiction))
    |skip))
 |succ i =>
  rw[nK]at q2;have hi1:((i+1:Nat):Int)-1=(i:Nat):=by omega
  have hlt:i<b.length:=by omega
  have hlv:i<v.length:=by omega
  have e1:=iu (g:=bS) (fun _=>rfl) v i 0 default hlv;have e2:=Dk b i hlt;have hbd:=hv.bd hb i;have htk:=fun k hk=>Dn hl hlt k hk
  have hul:=vt hl hlt;rw[hi1];generalize yP b v i=up at *;generalize hx:v.getD i 0=x at *;generalize (b.getD i zr).hi=y at *;by_cases hxy:x<y
  ·rw[if_pos hxy]at q2;subst q2;repeat' (first
    |((with_reducible show aH _);first|exact True.intro|(simp only[vb,lb,e1,e2,f1,f2,hlt,hlv,hxy];and_intros<;>first|omega|(simp<;>omega)))
    |((with_reducible show aP _);first|exact True.intro|((try dsimp only[go_sem]);(simp only[vb,and_true,true_implies];(repeat' (first|(with_reducible assumption)|(with_reducible apply And.intro)|intro _|((fail_if_success (with_reducible show(_:Int)≤_));assumption)))<;>(simp only[ab,e1,e2,f1,f2,hlt,hlv,hxy];done))))
    |exact(rfl:some _=_)
    |(
     fail_if_success refine a7 ?_
     refine bJ [(28,{val:=some (.pv (.int .i64 x))}),(33,{val:=some (.pv (.int .i64 y))})] ?_;repeat1' dsimp only[Dv,ae,aa,uv,go_sem]
     first
     |refine a8 ?_ ?_ rfl ?_
     |apply ba
     |apply bc
     |(refine bf (fun hc=>?_) fun hc=>?_<;>first|(cases hc;done)|(exfalso;(simp at hc<;>omega))|(try simp only[bn]at hc;try contradiction))
     |skip))
   refine bF b.length (fun _=>True) (fun k=>[(0,.pv (ae b)),(1,.pv (aa v)),(6,.pv (.int .i64 i)),(7,.ref 0 k 0 k),(8,.pv (.int .i64 k))]) (fun k=>[⟨((up.take k).flatMap bS).map .pv,k,1,3,false⟩]) trivial (by (repeat' (first|exact trivial|refine And.intro (by first|rfl|(simp[get,Nat.beq];done)|(simp[get,Nat.beq];omega)|(dsimp only[get];congr 1<;>first|rfl|omega|(simp;done)|(simp;omega))) ?_))) ⟨[],rfl⟩ (fun _=>⟨Nat.zero_le _,rfl,by simp[aM,dA]⟩) fun k hk _=>?_
   by_cases hkt:k<b.length
   ·have hkv:k<v.length:=by omega
    have e3:=iu (g:=bS) (fun _=>rfl) v k 0 default hkv;have e4:=oo b k hkt;have hs:=htk k hkt;have e7:=cJ (up.take k);have hll:(up.take k).length=k:=by rw[List.length_take];omega
    rw[hll]at e7;rw[hs];clear hs htk;generalize (b.getD k zr).lo=lo at *;generalize up.take k=w at *;by_cases hki:k<i
    ·rw[if_pos hki];generalize v.getD k 0=z at *;repeat' (first
      |((with_reducible show aH _);first|exact True.intro|(simp only[vb,lb,e3,e7,f1,hkt,hkv,hki];and_intros<;>first|omega|(simp<;>omega)))
      |((with_reducible show aP _);first|exact True.intro|((try dsimp only[go_sem]);first|(simp[vb,e3,e7,f1,hkt,hkv,hki]<;>omega)|(simp only[vb,and_true,true_implies];(repeat' (first|(with_reducible assumption)|(with_reducible apply And.intro)|intro _|((fail_if_success (with_reducible show(_:Int)≤_));assumption)))<;>(simp only[ab,e3,e7,f1,hkt,hkv,hki];done))))
      |exact(rfl:some _=_)
      |(
       fail_if_success refine a7 ?_
       refine bJ [(53,{val:=some (.pv (.bool true))}),(58,{val:=some (.pv (.int .i64 z))}),(60,{mode:=1})] ?_;repeat1' dsimp only[Dv,ae,aa,go_sem]
       first
       |refine a8 ?_ ?_ rfl ?_
       |apply ba
       |apply bc
       |(refine bf (fun hc=>?_) fun hc=>?_<;>first|(cases hc;done)|(exfalso;(simp at hc<;>omega))|(try simp only[bn]at hc;try contradiction))
       |skip))
     exact⟨hkt,trivial,by (repeat' (first|exact trivial|refine And.intro (by first|rfl|(simp[get,Nat.beq];done)|(simp[get,Nat.beq];omega)|(dsimp only[get];congr 1<;>first|rfl|omega|(simp;done)|(simp;omega))) ?_)),[],by simp[List.flatMap_append,bS]⟩
    ·rw[if_neg hki];by_cases hke:k=i
     ·subst hke;rw[if_pos rfl];repeat' (first
       |((with_reducible show aH _);first|exact True.intro|(simp only[vb,lb,e1,e7,f1,hkt,hkv];and_intros<;>first|omega|(simp<;>omega)))
       |((with_reducible show aP _);first|exact True.intro|((try dsimp only[go_sem]);first|(simp[vb,e1,e7,f1,hkt,hkv]<;>omega)|(simp only[vb,and_true,true_implies];(repeat' (first|(with_reducible assumption)|(with_reducible apply And.intro)|intro _|((fail_if_success (with_reducible show(_:Int)≤_));assumption)))<;>(simp only[ab,e1,e7,f1,hkt,hkv];done))))
       |exact(rfl:some _=_)
       |(
        fail_if_success refine a7 ?_
        refine bJ [(53,{val:=some (.pv (.bool false))}),(64,{val:=some (.pv (.bool true))}),(69,{val:=some (.pv (.int .i64 x))}),(72,{mode:=1})] ?_;repeat1' dsimp only[Dv,ae,aa,go_sem]
        first
        |refine a8 ?_ ?_ rfl ?_
        |apply ba
        |apply bc
        |(refine bf (fun hc=>?_) fun hc=>?_<;>first|(cases hc;done)|(exfalso;(simp at hc<;>omega))|(try simp only[bn]at hc;try contradiction))
        |skip))
      exact⟨hkt,trivial,by (repeat' (first|exact trivial|refine And.intro (by first|rfl|(simp[get,Nat.beq];done)|(simp[get,Nat.beq];omega)|(dsimp only[get];congr 1<;>first|rfl|omega|(simp;done)|(simp;omega))) ?_)),[],by simp[List.flatMap_append,bS]⟩
     ·rw[if_neg hke];have hke':¬(k:Int)=(i:Int):=by omega
      repeat' (first
       |((with_reducible show aH _);first|exact True.intro|(simp only[vb,lb,e4,e7,f2,hkt,hki,hke,hke'];and_intros<;>first|omega|(simp<;>omega)))
       |((with_reducible show aP _);first|exact True.intro|((try dsimp only[go_sem]);first|(simp[vb,e4,e7,f2,hkt,hki,hke,hke']<;>omega)|(simp only[vb,and_true,true_implies];(repeat' (first|(with_reducible assumption)|(with_reducible apply And.intro)|intro _|((fail_if_success (with_reducible show(_:Int)≤_));assumption)))<;>(simp only[ab,e4,e7,f2,hkt,hki,hke,hke'];done))))
       |exact(rfl:some _=_)
       |(
        fail_if_success refine a7 ?_
        refine bJ [(53,{val:=some (.pv (.bool false))}),(64,{val:=some (.pv (.bool false))}),(47,{val:=some (.pv (.int .i64 lo))}),(49,{mode:=1})] ?_;repeat1' dsimp only[Dv,ae,aa,go_sem]
        first
        |refine a8 ?_ ?_ rfl ?_
        |apply ba
        |apply bc
        |(refine bf (fun hc=>?_) fun hc=>?_<;>first|(cases hc;done)|(exfalso;(simp at hc<;>omega))|(try simp only[bn]at hc;try contradiction))
        |skip))
      exact⟨hkt,trivial,by (repeat' (first|exact trivial|refine And.intro (by first|rfl|(simp[get,Nat.beq];done)|(simp[get,Nat.beq];omega)|(dsimp only[get];congr 1<;>first|rfl|omega|(simp;done)|(simp;omega))) ?_)),[],by simp[List.flatMap_append,bS]⟩
   ·obtain rfl:k=b.length:=by omega
    have ht:up.take b.length=up:=List.take_of_length_le (by omega);simp only[ht];have f3:=cJ up;repeat' (first
     |((with_reducible show aH _);exact True.intro)
     |((with_reducible show aP _);exact True.intro)
     |exact(rfl:some _=_)
     |(
      fail_if_success refine a7 ?_
      refine aV ?_;repeat1' dsimp only[Dv,ae,aa,uv,go_sem]
      first
      |refine a8 ?_ ?_ rfl ?_
      |apply ba
      |apply bc
      |(refine bf (fun hc=>?_) fun hc=>?_<;>first|(cases hc;done)|(exfalso;(simp at hc<;>omega))|(try simp only[bn]at hc;try contradiction))
      |skip))
    rw[hul];exact tG (lp rfl rfl rfl (by rw[List.drop_zero,List.take_of_length_le (by simp only[List.length_map];omega)]) (by simp only[List.length_map];omega)) rfl
  ·rw[if_neg hxy]at q2;repeat' (first
    |((with_reducible show aH _);first|exact True.intro|(simp only[vb,lb,e1,e2,f1,f2,hlt,hlv,hxy];and_intros<;>first|omega|(simp<;>omega)))
    |((with_reducible show aP _);first|exact True.intro|((try dsimp only[go_sem]);(simp only[vb,and_true,true_implies];(repeat' (first|(with_reducible assumption)|(with_reducible apply And.intro)|intro _|((fail_if_success (with_reducible show(_:Int)≤_));assumption)))<;>(simp only[ab,e1,e2,f1,f2,hlt,hlv,hxy];done))))
    |exact(rfl:some _=_)
    |(
     fail_if_success refine a7 ?_
     refine bJ [(28,{val:=some (.pv (.int .i64 x))}),(33,{val:=some (.pv (.int .i64 y))})] ?_;repeat1' dsimp only[Dv,ae,aa,go_sem]
     first
     |refine a8 ?_ ?_ rfl ?_
     |apply ba
     |apply bc
     |(refine bf (fun hc=>?_) fun hc=>?_<;>first|(cases hc;done)|(exfalso;(simp at hc<;>omega))|(try simp only[bn]at hc;try contradiction))
     |skip))
   exact⟨i,by omega,⟨by omega,q2⟩,by (repeat' (first|exact trivial|refine And.intro (by first|rfl|(simp[get,Nat.beq];done)|(simp[get,Nat.beq];omega)|(dsimp only[get];congr 1<;>first|rfl|omega|(simp;done)|(simp;omega))) ?_)),_,rfl⟩
theorem zW (l:List Bool) (k:Nat) (h:k<l.length):((l.flatMap dT).map AV.pv)[k]?.getD .any= .pv (.bool (l.getD k false)):=by
 have e:l.flatMap dT=l.map PV.bool:=by
  induction l with
  |nil=>rfl
  |cons x r ih =>
   by_cases hr:0<r.length
   ·rw[List.flatMap_cons,List.map_cons];have:r.flatMap dT=r.map PV.bool:=by
     clear ih hr h;induction r with
     |nil=>rfl
     |cons y r ih=>rw[List.flatMap_cons,ih];rfl
    rw[this];rfl
   ·have:r=[]:=List.length_eq_zero_iff.mp (by omega);subst this;rfl
 rw[e,List.map_map,List.getElem?_map,List.getD,List.getElem?_eq_getElem h];rfl
set_option maxHeartbeats 8000000 in
theorem yV (n:Nat) (es:List Bool) (h1:1≤n) (h2:n≤6) (he:es.length=n*n):ah ctx 121 [.int .i64 n,bE es] (.bool (ot n es)):=by
 have f1:=eN es;have hsq:n*n≤36:=Nat.mul_le_mul h2 h2;refine ar (C:=ctx) (Fn.of Hn rfl) rfl ?_;unfold nt;repeat' (first
  |((with_reducible first|show aH _|show aP _);simp[vb]<;>omega)
  |exact(rfl:some _=_)
  |(
   fail_if_success refine a7 ?_
   refine aV ?_;repeat1' dsimp only[nt,bE,go_sem]
   first
   |refine a8 ?_ ?_ rfl ?_
   |apply ba
   |apply bc
   |(refine bf (fun hc=>?_) fun hc=>?_<;>first|(cases hc;done)|(exfalso;simp at hc<;>omega)|(try simp only[bn]at hc;try contradiction))
   |skip))
 refine bF n (fun _=>True) (fun k=>[(0,.pv (.int .i64 n)),(1,.pv (bE es)),(4,.pv (.bool false)),(5,.ref 0 k 0 k),(6,.pv (.int .i64 k))]) (fun k=>[⟨((List.replicate k true).flatMap dT).map .pv,k,1,4,false⟩]) trivial (by (repeat' (first|exact trivial|refine And.intro (by first|rfl|(simp[get,Nat.beq];done)|(simp[get,Nat.beq];omega)|(dsimp only[get];congr 1<;>first|rfl|omega|(simp;done)|(simp;omega))) ?_))) ⟨[],rfl⟩ (fun _=>⟨Nat.zero_le _,rfl,by simp[aM,dA]⟩) fun k hk _=>?_
 by_cases hlt:k<n
 ·have e7:=eN (List.replicate k true);rw[List.length_replicate]at e7;have hs:List.replicate (k+1) true=List.replicate k true++[true]:=List.replicate_succ';rw[hs];generalize List.replicate k true=w at *;repeat' (first
   |((with_reducible show aH _);first|exact True.intro|(simp only[vb,lb,e7,hlt];and_intros<;>first|omega|(simp<;>omega)))
   |((with_reducible show aP _);exact True.intro)
   |exact(rfl:some _=_)
   |(
    fail_if_success refine a7 ?_
    refine bJ [(20,{mode:=1})] ?_;repeat1' dsimp only[nt,bE,go_sem]
    first
    |refine a8 ?_ ?_ rfl ?_
    |apply ba
    |apply bc
    |(refine bf (fun hc=>?_) fun hc=>?_<;>first|(cases hc;done)|(exfalso;(simp at hc<;>omega))|(try simp only[bn]at hc;try contradiction))
    |skip))
  exact⟨hlt,trivial,by (repeat' (first|exact trivial|refine And.intro (by first|rfl|(simp[get,Nat.beq];done)|(simp[get,Nat.beq];omega)|(dsimp only[get];congr 1<;>first|rfl|omega|(simp;done)|(simp;omega))) ?_)),[],by simp[List.flatMap_append,dT]⟩
 obtain rfl:k=n:=by omega
 repeat' (first
  |((with_reducible show aH _);exact True.intro)
  |((with_reducible show aP _);exact True.intro)
  |exact(rfl:some _=_)
  |(
   fail_if_success refine a7 ?_
   refine aV ?_;repeat1' dsimp only[nt,bE,go_sem]
   first
   |refine a8 ?_ ?_ rfl ?_
   |apply ba
   |apply bc
   |(refine bf (fun hc=>?_) fun hc=>?_<;>first|(cases hc;done)|(exfalso;(simp at hc<;>omega))|(try simp only[bn]at hc;try contradiction))
   |skip))
 refine bF k (fun _=>True) (fun r=>[(0,.pv (.int .i64 k)),(1,.pv (bE es)),(4,.pv (.bool false)),(5,.ref 0 k 0 k),(7,.pv (.int .i64 r))]) (fun r=>[⟨((gR k es r).flatMap dT).map .pv,k,1,4,false⟩]) trivial (by (repeat' (first|exact trivial|refine And.intro (by first|rfl|(simp[get,Nat.beq];done)|(simp[get,Nat.beq];omega)|(dsimp only[get];congr 1<;>first|rfl|omega|(simp;done)|(simp;omega))) ?_))) ⟨[],rfl⟩ (fun _=>⟨Nat.zero_le _,rfl,by simp[aM,dA]⟩) fun r hr _=>?_
 have hrl:=kY k es r;by_cases hrt:r<k
 ·have hps:∀a,(jq k es (gR k es r) a).length=k:=fun a=>(kD k es _ a).trans hrl
  rw[gR];generalize hlf:gR k es r=lf at *;repeat' (first
   |((with_reducible show aH _);exact True.intro)
   |((with_reducible show aP _);exact True.intro)
   |exact(rfl:some _=_)
   |(
    fail_if_success refine a7 ?_
    refine aV ?_;repeat1' dsimp only[nt,bE,go_sem]
    first
    |refine a8 ?_ ?_ rfl ?_
    |apply ba
    |apply bc
    |(refine bf (fun hc=>?_) fun hc=>?_<;>first|(cases hc;done)|(exfalso;(simp at hc<;>omega))|(try simp only[bn]at hc;try contradiction))
    |skip))
  refine bF k (fun _=>True) (fun a=>[(0,.pv (.int .i64 k)),(1,.pv (bE es)),(4,.pv (.bool false)),(5,.ref 0 k 0 k),(7,.pv (.int .i64 r)),(8,.pv (.int .i64 a))]) (fun a=>[⟨((jq k es lf a).flatMap dT).map .pv,k,1,4,false⟩]) trivial (by (repeat' (first|exact trivial|refine And.intro (by first|rfl|(simp[get,Nat.beq];done)|(simp[get,Nat.beq];omega)|(dsimp only[get];congr 1<;>first|rfl|omega|(simp;done)|(simp;omega))) ?_))) ⟨[],rfl⟩ (fun _=>⟨Nat.zero_le _,rfl,by simp[aM,dA]⟩) fun a ha _=>?_
  by_cases hat:a<k
  ·have hpl:=hps a;rw[jq];generalize hpe:jq k es lf a=pe at *;repeat' (first
    |((with_reducible show aH _);first|exact True.intro|(simp only[vb,lb,hat];and_intros<;>first|omega|(simp<;>omega)))
    |((with_reducible show aP _);exact True.intro)
    |exact(rfl:some _=_)
    |(
     fail_if_success refine a7 ?_
     refine aV ?_;repeat1' dsimp only[nt,bE,go_sem]
     first
     |refine a8 ?_ ?_ rfl ?_
     |apply ba
     |apply bc
     |(refine bf (fun hc=>?_) fun hc=>?_<;>first|(cases hc;done)|(exfalso;(simp at hc<;>omega))|(try simp only[bn]at hc;try contradiction))
     |skip))
   refine bF k (fun _=>True) (fun b=>[(0,.pv (.int .i64 k)),(1,.pv (bE es)),(4,.pv (.bool false)),(5,.ref 0 k 0 k),(7,.pv (.int .i64 r)),(8,.pv (.int .i64 a)),(9,.pv (.bool ((List.range b).all fun b=>!(pe.getD b false&&es.getD (b*k+a) false)))),(10,.pv (.int .i64 b))]) (fun _=>[⟨(pe.flatMap dT).map .pv,k,1,4,false⟩]) trivial (by (repeat' (first|exact trivial|refine And.intro (by first|rfl|(simp[get,Nat.beq];done)|(simp[get,Nat.beq];omega)|(dsimp only[get];congr 1<;>first|rfl|omega|(simp;done)|(simp;omega))) ?_))) ⟨[],rfl⟩ (fun _=>⟨Nat.zero_le _,rfl,by simp[aM,dA]⟩) fun b hb _=>?_
   by_cases hbt:b<k
   ·have e1:=zW pe b (by omega);have hlt2:b*k+a<es.length:=by
     have:=Nat.mul_le_mul_right k (show b+1≤k by omega);rw[Nat.add_mul]at this;omega
    have e2:=iu (g:=dT) (f:=PV.bool) (fun _=>rfl) es (b*k+a) false default hlt2;have e3:((b:Nat):Int)*(k:Int)=((b*k:Nat):Int):=by simp
    have hs:((List.range (b+1)).all fun b=>!(pe.getD b false&&es.getD (b*k+a) false))=(((List.range b).all fun b=>!(pe.getD b false&&es.getD (b*k+a) false))&& !(pe.getD b false&&es.getD (b*k+a) false)):=by
     rw[List.range_succ,List.all_append];simp
    rw[hs];have e9:=eN pe;generalize ((List.range b).all fun b=>!(pe.getD b false&&es.getD (b*k+a) false))=fr at *;generalize pe.getD b false=x at *;generalize es.getD (b*k+a) false=y at *;clear hs hps;generalize b*k=bk at *;have e6:((bk:Nat):Int)+(a:Int)=((bk+a:Nat):Int):=by simp
    generalize k*k=kk at *;cases x with
    |false =>
     simp only[Bool.false_and,Bool.not_false,Bool.and_true];repeat' (first
      |((with_reducible show aH _);first|exact True.intro|(simp only[vb,lb,e1,e2,e3,f1,e9,hpl,hbt,hlt2];and_intros<;>first|omega|(simp<;>omega)))
      |((with_reducible show aP _);first|exact True.intro|((try dsimp only[go_sem]);(simp only[vb,and_true,true_implies];(repeat' (first|(with_reducible assumption)|(with_reducible apply And.intro)|intro _|((fail_if_success (with_reducible show(_:Int)≤_));assumption)))<;>first|omega|rfl|(simp only[ab,e1,e2,e3,f1,e9,hpl,hbt,hlt2];done))))
      |exact(rfl:some _=_)
      |(
       fail_if_success refine a7 ?_
       refine bJ [(39,{val:=some (.pv (.bool false))}),(44,{val:=some (.pv (.int .i64 bk))}),(46,{val:=some (.pv (.int .i64 (bk+a:Nat)))}),(48,{val:=some (.pv (.bool y))})] ?_;repeat1' dsimp only[nt,bE,go_sem]
       first
       |refine a8 ?_ ?_ rfl ?_
       |apply ba
       |apply bc
       |(refine bf (fun hc=>?_) fun hc=>?_<;>first|(cases hc;done)|(exfalso;(simp at hc<;>omega))|(try simp only[bn]at hc;try contradiction))
       |skip))
     exact⟨hbt,trivial,by (repeat' (first|exact trivial|refine And.intro (by first|rfl|(simp[get,Nat.beq];done)|(simp[get,Nat.beq];omega)|(dsimp only[get];congr 1<;>first|rfl|omega|(simp;done)|(simp;omega))) ?_)),_,rfl⟩
    |true =>
     cases y with
     |false =>
      simp only[Bool.true_and,Bool.not_false,Bool.and_true];repeat' (first
       |((with_reducible show aH _);first|exact True.intro|(simp only[vb,lb,e1,e2,e3,f1,e9,hpl,hbt,hlt2];and_intros<;>first|omega|(simp<;>omega)))
       |((with_reducible show aP _);first|exact True.intro|((try dsimp only[go_sem]);(simp only[vb,and_true,true_implies];(repeat' (first|(with_reducible assumption)|(with_reducible apply And.intro)|intro _|((fail_if_success (with_reducible show(_:Int)≤_));assumption)))<;>first|omega|rfl|(simp only[ab,e1,e2,e3,f1,e9,hpl,hbt,hlt2];done))))
       |exact(rfl:some _=_)
       |(
        fail_if_success refine a7 ?_
        refine bJ [(39,{val:=some (.pv (.bool true))}),(44,{val:=some (.pv (.int .i64 bk))}),(46,{val:=some (.pv (.int .i64 (bk+a:Nat)))}),(48,{val:=some (.pv (.bool false))})] ?_;repeat1' dsimp only[nt,bE,go_sem]
        first
        |refine a8 ?_ ?_ rfl ?_
        |apply ba
        |apply bc
        |(refine bf (fun hc=>?_) fun hc=>?_<;>first|(cases hc;done)|(exfalso;(simp at hc<;>omega))|(try simp only[bn]at hc;try contradiction))
        |skip))
      exact⟨hbt,trivial,by (repeat' (first|exact trivial|refine And.intro (by first|rfl|(simp[get,Nat.beq];done)|(simp[get,Nat.beq];omega)|(dsimp only[get];congr 1<;>first|rfl|omega|(simp;done)|(simp;omega))) ?_)),_,rfl⟩
     |true =>
      simp only[Bool.true_and,Bool.not_true,Bool.and_false];repeat' (first
       |((with_reducible show aH _);first|exact True.intro|(simp only[vb,lb,e1,e2,e3,f1,e9,hpl,hbt,hlt2];and_intros<;>first|omega|(simp<;>omega)))
       |((with_reducible show aP _);first|exact True.intro|((try dsimp only[go_sem]);(simp only[vb,and_true,true_implies];(repeat' (first|(with_reducible assumption)|(with_reducible apply And.intro)|intro _|((fail_if_success (with_reducible show(_:Int)≤_));assumption)))<;>first|omega|rfl|(simp only[ab,e1,e2,e3,f1,e9,hpl,hbt,hlt2];done))))
       |exact(rfl:some _=_)
       |(
        fail_if_success refine a7 ?_
        refine bJ [(39,{val:=some (.pv (.bool true))}),(44,{val:=some (.pv (.int .i64 bk))}),(46,{val:=some (.pv (.int .i64 (bk+a:Nat)))}),(48,{val:=some (.pv (.bool true))})] ?_;repeat1' dsimp only[nt,bE,go_sem]
        first
        |refine a8 ?_ ?_ rfl ?_
        |apply ba
        |apply bc
        |(refine bf (fun hc=>?_) fun hc=>?_<;>first|(cases hc;done)|(exfalso;(simp at hc<;>omega))|(try simp only[bn]at hc;try contradiction))
        |skip))
      exact⟨hbt,trivial,by (repeat' (first|exact trivial|refine And.intro (by first|rfl|(simp[get,Nat.beq];done)|(simp[get,Nat.beq];omega)|(dsimp only[get];congr 1<;>first|rfl|omega|(simp;done)|(simp;omega))) ?_)),_,rfl⟩
   ·obtain rfl:b=k:=by omega
    rw[show((List.range b).all fun c=>!(pe.getD c false&&es.getD (c*b+a) false))=zR b es pe a from rfl];have e9:=eN pe;have hst:=zQ pe a false;generalize zR b es pe a=fr at *;cases fr with
    |true =>
     simp only[if_true];repeat' (first
      |((with_reducible show aH _);first|exact True.intro|(simp only[vb,lb,hbt,e9,hpl,hat];and_intros<;>first|omega|(simp<;>omega)))
      |((with_reducible show aP _);exact True.intro)
      |exact(rfl:some _=_)
      |(
       fail_if_success refine a7 ?_
       refine aV ?_;repeat1' dsimp only[nt,bE,go_sem]
       first
       |refine a8 ?_ ?_ rfl ?_
       |apply ba
       |apply bc
       |(refine bf (fun hc=>?_) fun hc=>?_<;>first|(cases hc;done)|(exfalso;(simp at hc<;>omega))|(try simp only[bn]at hc;try contradiction))
       |skip))
     exact⟨hat,trivial,by (repeat' (first|exact trivial|refine And.intro (by first|rfl|(simp[get,Nat.beq];done)|(simp[get,Nat.beq];omega)|(dsimp only[get];congr 1<;>first|rfl|omega|(simp;done)|(simp;omega))) ?_)),[],by simp[hst]⟩
    |false =>
     simp only[Bool.false_eq_true,if_false];repeat' (first
      |((with_reducible show aH _);first|exact True.intro|(simp only[vb,lb,hbt];and_intros<;>first|omega|(simp<;>omega)))
      |((with_reducible show aP _);exact True.intro)
      |exact(rfl:some _=_)
      |(
       fail_if_success refine a7 ?_
       refine aV ?_;repeat1' dsimp only[nt,bE,go_sem]
       first
       |refine a8 ?_ ?_ rfl ?_
       |apply ba
       |apply bc
       |(refine bf (fun hc=>?_) fun hc=>?_<;>first|(cases hc;done)|(exfalso;(simp at hc<;>omega))|(try simp only[bn]at hc;try contradiction))
       |skip))
     exact⟨hat,trivial,by (repeat' (first|exact trivial|refine And.intro (by first|rfl|(simp[get,Nat.beq];done)|(simp[get,Nat.beq];omega)|(dsimp only[get];congr 1<;>first|rfl|omega|(simp;done)|(simp;omega))) ?_)),_,rfl⟩
  ·obtain rfl:a=k:=by omega
   repeat' (first
    |((with_reducible show aH _);first|exact True.intro|(simp only[vb,lb,hat];and_intros<;>first|omega|(simp<;>omega)))
    |((with_reducible show aP _);exact True.intro)
    |exact(rfl:some _=_)
    |(
     fail_if_success refine a7 ?_
     refine aV ?_;repeat1' dsimp only[nt,bE,go_sem]
     first
     |refine a8 ?_ ?_ rfl ?_
     |apply ba
     |apply bc
     |(refine bf (fun hc=>?_) fun hc=>?_<;>first|(cases hc;done)|(exfalso;(simp at hc<;>omega))|(try simp only[bn]at hc;try contradiction))
     |skip))
   exact⟨hrt,trivial,by (repeat' (first|exact trivial|refine And.intro (by first|rfl|(simp[get,Nat.beq];done)|(simp[get,Nat.beq];omega)|(dsimp only[get];congr 1<;>first|rfl|omega|(simp;done)|(simp;omega))) ?_)),_,rfl⟩
 ·obtain rfl:r=k:=by omega
  repeat' (first
   |((with_reducible show aH _);exact True.intro)
   |((with_reducible show aP _);exact True.intro)
   |exact(rfl:some _=_)
   |(
    fail_if_success refine a7 ?_
    refine aV ?_;repeat1' dsimp only[nt,bE,go_sem]
    first
    |refine a8 ?_ ?_ rfl ?_
    |apply ba
    |apply bc
    |(refine bf (fun hc=>?_) fun hc=>?_<;>first|(cases hc;done)|(exfalso;(simp at hc<;>omega))|(try simp only[bn]at hc;try contradiction))
    |skip))
  unfold ot;generalize gR r es r=lf at *;generalize hq:lf.all (fun x=>!x)=q;refine bF r (fun j=>(lf.drop j).all (fun x=>!x)=q) (fun a=>[(0,.pv (.int .i64 r)),(5,.ref 0 r 0 r),(11,.pv (.int .i64 a))]) (fun a=>[⟨(lf.flatMap dT).map .pv,r,1,4,false⟩]) hq (by (repeat' (first|exact trivial|refine And.intro (by first|rfl|(simp[get,Nat.beq];done)|(simp[get,Nat.beq];omega)|(dsimp only[get];congr 1<;>first|rfl|omega|(simp;done)|(simp;omega))) ?_))) ⟨[],rfl⟩ (fun _=>⟨Nat.zero_le _,rfl,by simp[aM,dA]⟩) fun a ha hP=>?_
  by_cases hat:a<r
  ·have e1:=zW lf a (by omega);have e9:=eN lf;rw[fM lf a false (by omega),List.all_cons]at hP;generalize lf.getD a false=x at *;cases x with
   |true =>
    simp only[Bool.not_true,Bool.false_and]at hP;subst hP;repeat' (first
     |((with_reducible show aH _);first|exact True.intro|(simp only[vb,lb,e1,e9,hrl,hat];and_intros<;>first|omega|(simp<;>omega)))
     |((with_reducible show aP _);first|exact True.intro|((try dsimp only[go_sem]);(simp only[vb,and_true,true_implies];(repeat' (first|(with_reducible assumption)|(with_reducible apply And.intro)|intro _|((fail_if_success (with_reducible show(_:Int)≤_));assumption)))<;>(simp only[ab,e1,e9,hrl,hat];done))))
     |exact(rfl:some _=_)
     |(
      fail_if_success refine a7 ?_
      refine bJ [(62,{val:=some (.pv (.bool true))})] ?_;repeat1' dsimp only[nt,bE,go_sem]
      first
      |refine a8 ?_ ?_ rfl ?_
      |apply ba
      |apply bc
      |(refine bf (fun hc=>?_) fun hc=>?_<;>first|(cases hc;done)|(exfalso;(simp at hc<;>omega))|(try simp only[bn]at hc;try contradiction))
      |skip))
   |false =>
    simp only[Bool.not_false,Bool.true_and]at hP;repeat' (first
     |((with_reducible show aH _);first|exact True.intro|(simp only[vb,lb,e1,e9,hrl,hat];and_intros<;>first|omega|(simp<;>omega)))
     |((with_reducible show aP _);first|exact True.intro|((try dsimp only[go_sem]);(simp only[vb,and_true,true_implies];(repeat' (first|(with_reducible assumption)|(with_reducible apply And.intro)|intro _|((fail_if_success (with_reducible show(_:Int)≤_));assumption)))<;>(simp only[ab,e1,e9,hrl,hat];done))))
     |exact(rfl:some _=_)
     |(
      fail_if_success refine a7 ?_
      refine bJ [(62,{val:=some (.pv (.bool false))})] ?_;repeat1' dsimp only[nt,bE,go_sem]
      first
      |refine a8 ?_ ?_ rfl ?_
      |apply ba
      |apply bc
      |(refine bf (fun hc=>?_) fun hc=>?_<;>first|(cases hc;done)|(exfalso;(simp at hc<;>omega))|(try simp only[bn]at hc;try contradiction))
      |skip))
    exact⟨hat,hP,by (repeat' (first|exact trivial|refine And.intro (by first|rfl|(simp[get,Nat.beq];done)|(simp[get,Nat.beq];omega)|(dsimp only[get];congr 1<;>first|rfl|omega|(simp;done)|(simp;omega))) ?_)),_,rfl⟩
  ·obtain rfl:a=r:=by omega
   rw[List.drop_of_length_le (by omega)]at hP;simp only[List.all_nil]at hP;subst hP;repeat' (first
    |((with_reducible show aH _);first|exact True.intro|(simp only[vb,lb,hat];and_intros<;>first|omega|(simp<;>omega)))
    |((with_reducible show aP _);exact True.intro)
    |exact(rfl:some _=_)
    |(
     fail_if_success refine a7 ?_
     refine aV ?_;repeat1' dsimp only[nt,bE,go_sem]
     first
     |refine a8 ?_ ?_ rfl ?_
     |apply ba
     |apply bc
     |(refine bf (fun hc=>?_) fun hc=>?_<;>first|(cases hc;done)|(exfalso;(simp at hc<;>omega))|(try simp only[bn]at hc;try contradiction))
     |skip))
end Pur
end
section
namespace Rf
def fv {α:Type} (p:α→Bool) (l:List α) (d:α):Nat→List Int
 |0=>[]
 |k+1=>fv p l d k++if p (l.getD k d)=true then [] else [(k:Int)]
theorem qf {α:Type} (p:α→Bool) (l:List α) (d:α):∀k,(fv p l d k).length≤k
 |0=>Nat.le_refl _
 |k+1=>by
  have:=qf p l d k;rw[fv,List.length_append];split<;>simp<;>omega
theorem qg {α:Type} (p:α→Bool) (l:List α) (d:α):∀k,k≤l.length→(decide ((fv p l d k).length=0)=(l.take k).all p)
 |0,_=>by simp[fv]
 |k+1,h=>by
  have ih:=qg p l d k (by omega);rw[Pur.ew p l k d (by omega),←ih,fv,List.length_append];cases p (l.getD k d)<;>simp
def kF (v:List Int):List (List Rw)→Nat→Int×Bool
 |[],_=>(0,false)
 |c::r,k=>if fN v c=true then ((k:Int),true) else kF v r (k+1)
theorem s7 (v:List Int):∀(l:List (List Rw)) (k:Nat),(kF v l k).2=l.any (fN v)
 |[],_=>rfl
 |c::r,k=>by
  rw[kF,List.any_cons];by_cases h:fN v c=true
  ·rw[if_pos h,h];rfl
  ·rw[if_neg h,s7 v r (k+1),Bool.eq_false_iff.mpr h];rfl
end Rf
namespace Pur
open Go.RowKit
attribute [local go_sem] bI fa bR bu cS gf List.map aX aG get put tmpsOf dF iW gF iG conds ev cond_true cond_false Nat.beq Nat.ble Nat.add quiet dG cf cF pn List.append_eq List.nil_append List.cons_append dE cy cz cA cB cC cD fg eY dv jb dH calm quiet.isCallK cH List.getElem?_cons_zero List.getElem?_cons_succ bp b6 cellsOf List.all bC List.length_cons List.length_nil eP a6 List.drop List.take List.getD Option.getD_some qR qS qF qT qU qV eB gC eC eD setAt List.set Nat.reduceAdd Nat.reduceMul b9 bw refsOf bG bM scalar cd ef bL ca aN after freeze im gT aS dx dQ dt eH c6 c7 cj da db de dh di dj dk dm dn dp dq ck cp cu dw jc bytesOf bH cU aQ bD dS bA bT cI still bW ed dy dW bP eI List.isEmpty cv cw cx Int.reduceToNat Nat.mul_one Nat.reduceSub oM cV b7 dK cG look dL strip guarded fV eK eO cK dV cY hJ dc dd Bool.or_false Bool.or_true Bool.and_true Bool.and_false Nat.blt gg fx gq dD idxOf gU gV iX eV aN mI
open Rf
def c93:ay:=(⟨_,by conv=>(lhs;reduce;try simp only[eA,Int.cast_ofNat_Int,Int.reduceNegSucc,UInt8.reduceOfNat])⟩:{x // codeOf Tryz.prog 93 (fun d=>Nat.beq d 14||Nat.beq d 15)=some x}).1
theorem Ih:bK Tryz.prog 93 (fun d=>Nat.beq d 14||Nat.beq d 15)=some (c93,[.t 4,.t 5],69,true):=by kernel_rfl
def ET:ay:=(⟨_,by conv=>(lhs;reduce;try simp only[eA,Int.cast_ofNat_Int,Int.reduceNegSucc,UInt8.reduceOfNat])⟩:{x // codeOf Tryz.prog 94 (fun _=>false)=some x}).1
theorem Ii:bK Tryz.prog 94 (fun _=>false)=some (ET,[.t 4,.t 5],52,true):=by kernel_rfl
def Ij:ay:=(⟨_,by conv=>(lhs;reduce;try simp only[eA,Int.cast_ofNat_Int,Int.reduceNegSucc,UInt8.reduceOfNat])⟩:{x // codeOf Tryz.prog 63 (fun _=>false)=some x}).1
theorem Ik:bK Tryz.prog 63 (fun _=>false)=some (Ij,[.t 4],48,true):=by kernel_rfl
def c31:ay:=(⟨_,by conv=>(lhs;reduce;try simp only[eA,Int.cast_ofNat_Int,Int.reduceNegSucc,UInt8.reduceOfNat])⟩:{x // codeOf Tryz.prog 31 (fun _=>false)=some x}).1
theorem Il:bK Tryz.prog 31 (fun _=>false)=some (c31,[.t 2],30,true):=by kernel_rfl
abbrev Dp (s:Sy):fw:=⟨[.pv (ae s.box),.pv (ax s.rows),.pv (aE s.graphs),.pv (aA s.cases)],0,4,36,false⟩
abbrev EU (l:List Int):fw:=⟨(l.flatMap bS).map .pv,l.length,1,3,false⟩
structure s8 (s:Sy) (v:List Int):Prop where
 k:gJ s=true
 i:eM s.box v
theorem s8.bd {s:Sy} {v:List Int} (h:s8 s v):∀k,-1000000≤v.getD k 0∧v.getD k 0≤1000000:=by
 have:=h.k;simp only[gJ,fQ,Bool.and_eq_true,decide_eq_true_eq]at this;exact h.i.bd this.1.1.1.1.1.1.1
set_option maxHeartbeats 8000000 in
theorem Dq (s:Sy) (hs:zO s) (v:List Int) (h:s8 s v):ah ctx 93 [.agg [ae s.box,ax s.rows,aE s.graphs,aA s.cases],aa v]
  (.tup [aa (fv (fun r=>decide (fR v r.terms≤r.bound)) s.rows zw s.rows.length),aa (fv (fun g=>ot g.size.toNat (eG g v)) s.graphs zg s.graphs.length)]):=by
 have hbd:=h.bd;have h1:=xx s hs h.k v h.i hbd;have hk:=h.k;have hl:=h.i.len;simp only[gJ,fQ,Bool.and_eq_true,decide_eq_true_eq]at hk;obtain⟨⟨⟨⟨⟨⟨⟨k1,k1'⟩,k2⟩,k3⟩,k4⟩,k5⟩,k6⟩,k7⟩:=hk;have f1:=j7 s.rows;have f2:=ra s.graphs;have hsb:=hs.b;unfold ae ax aE aA at h1;unfold aa at h1;refine ar (C:=ctx) (Fn.of Ih rfl) rfl ?_;unfold c93;repeat' (first
  |((with_reducible show aH _);first|exact True.intro|(simp only[vb,lb,h1];and_intros<;>first|omega|(simp<;>omega)))
  |((with_reducible show aP _);first|exact True.intro|((try dsimp only[go_sem]);(simp[vb,h1]<;>omega)))
  |exact(rfl:some _=_)
  |(
   fail_if_success refine a7 ?_
   refine iF [(119,fun _=>some (.bool true))] ?_;repeat1' dsimp only[c93,ae,ax,aE,aA,aa,go_sem]
   first
   |refine a8 ?_ ?_ rfl ?_
   |apply ba
   |apply bc
   |(refine bf (fun hc=>?_) fun hc=>?_<;>first|(cases hc;done)|(try simp only[bn]at hc;try contradiction))
   |skip))
 refine bF s.rows.length (fun _=>True) (fun k=>[(1,.pv (aa v)),(2,.ptr 0 0 0),(6,.ref 1 (fv (fun r=>decide (fR v r.terms≤r.bound)) s.rows zw k).length 0 (fv (fun r=>decide (fR v r.terms≤r.bound)) s.rows zw k).length),(7,.ref 2 0 0 0),(8,.pv (.int .i64 k))])
  (fun k=>[Dp s,EU (fv (fun r=>decide (fR v r.terms≤r.bound)) s.rows zw k),EU []]) trivial (by (repeat' (first|exact trivial|refine And.intro (by first|rfl|(simp[get,Nat.beq,fv];done)|(simp[get,Nat.beq,fv];omega)|(dsimp only[get];congr 1<;>first|rfl|omega|(simp;done)|(simp;omega))) ?_))) ⟨[],rfl⟩ (fun _=>⟨Nat.zero_le _,rfl,by simp[aM,dA]⟩) fun k hk _=>?_
 by_cases hlt:k<s.rows.length
 ·have e:=dC j6 s.rows k zw hlt;have e2:(s.rows.flatMap eZ)[k*2+1]?.getD default= .int .i64 (s.rows.getD k zw).bound:=by rw[bZ j6 s.rows k zw 1 hlt (by omega)];rfl
  have hm:=aT (d:=zw) hlt;have hv:=xw v (s.rows.getD k zw) hbd (by rw[hl];exact List.all_eq_true.mp k1' _ hm) (hs.rt _ hm);have hbl:=qf (fun r:Rw=>decide (fR v r.terms≤r.bound)) s.rows zw k;rw[fv];generalize s.rows.getD k zw=x at *;generalize fv (fun r:Rw=>decide (fR v r.terms≤r.bound)) s.rows zw k=w at *;have e7:=cJ w;obtain⟨ts,bd⟩:=x;simp only at *;generalize fR v ts=sm at *;unfold aa at hv;by_cases hsm:sm≤bd
  ·rw[decide_eq_true hsm];have hsm':¬bd<sm:=by omega
   simp only[if_true,List.append_nil];repeat' (first
    |((with_reducible show aH _);(simp only[vb,lb,e,e2,f1,hlt,eZ,au,hv,hsm'];and_intros<;>first|omega|(simp<;>omega)))
    |((with_reducible show aP _);first|exact True.intro|((try dsimp only[go_sem]);(simp only[vb,and_true,true_implies];(repeat' (first|(with_reducible assumption)|(with_reducible apply And.intro)|intro _|((fail_if_success (with_reducible show(_:Int)≤_));assumption)))<;>(simp only[ab,e,e2,f1,hlt,eZ,au,hv,hsm'];done))))
    |exact(rfl:some _=_)
    |(
     fail_if_success refine a7 ?_
     refine eW [(120,fun _=>some (.int .i64 sm))] [(27,{val:=some (.pv (.agg [.sl ts.length (ts.flatMap kG),.int .i64 bd]))}),(35,{val:=some (.pv (.int .i64 bd))})] ?_;repeat1' dsimp only[c93,ae,ax,aE,aA,aa,au,go_sem]
     first
     |refine a8 ?_ ?_ rfl ?_
     |apply ba
     |apply bc
     |(refine bf (fun hc=>?_) fun hc=>?_<;>first|(cases hc;done)|(exfalso;(simp at hc<;>omega))|(try simp only[bn]at hc;try contradiction))
     |skip))
   exact⟨hlt,trivial,by (repeat' (first|exact trivial|refine And.intro (by first|rfl|(simp[get,Nat.beq];done)|(simp[get,Nat.beq];omega)|(dsimp only[get];congr 1<;>first|rfl|omega|(simp;done)|(simp;omega))) ?_)),_,rfl⟩
  ·rw[decide_eq_false hsm];have hsm':bd<sm:=by omega
   simp only[Bool.false_eq_true,if_false];repeat' (first
    |((with_reducible show aH _);(simp only[vb,lb,e,e2,e7,f1,hlt,eZ,au,hv,hsm'];and_intros<;>first|omega|(simp<;>omega)))
    |((with_reducible show aP _);first|exact True.intro|((try dsimp only[go_sem]);(simp only[vb,and_true,true_implies];(repeat' (first|(with_reducible assumption)|(with_reducible apply And.intro)|intro _|((fail_if_success (with_reducible show(_:Int)≤_));assumption)))<;>(simp only[ab,e,e2,e7,f1,hlt,eZ,au,hv,hsm'];done))))
    |exact(rfl:some _=_)
    |(
     fail_if_success refine a7 ?_
     refine eW [(120,fun _=>some (.int .i64 sm))] [(27,{val:=some (.pv (.agg [.sl ts.length (ts.flatMap kG),.int .i64 bd]))}),(35,{val:=some (.pv (.int .i64 bd))}),(40,{mode:=1})] ?_;repeat1' dsimp only[c93,ae,ax,aE,aA,aa,au,go_sem]
     first
     |refine a8 ?_ ?_ rfl ?_
     |apply ba
     |apply bc
     |(refine bf (fun hc=>?_) fun hc=>?_<;>first|(cases hc;done)|(exfalso;(simp at hc<;>omega))|(try simp only[bn]at hc;try contradiction))
     |skip))
   exact⟨hlt,trivial,by (repeat' (first|exact trivial|refine And.intro (by first|rfl|(simp[get,Nat.beq];done)|(simp[get,Nat.beq];omega)|(dsimp only[get];congr 1<;>first|rfl|omega|(simp;done)|(simp;omega))) ?_)),[],by simp[List.flatMap_append,bS]⟩
 obtain rfl:k=s.rows.length:=by omega
 generalize fv (fun r:Rw=>decide (fR v r.terms≤r.bound)) s.rows zw s.rows.length=br at *;have e8:=cJ br;repeat' (first
  |((with_reducible show aH _);first|exact True.intro|(simp only[vb,lb,hlt];and_intros<;>first|omega|(simp<;>omega)))
  |((with_reducible show aP _);exact True.intro)
  |exact(rfl:some _=_)
  |(
   fail_if_success refine a7 ?_
   refine aV ?_;repeat1' dsimp only[c93,ae,ax,aE,aA,aa,go_sem]
   first
   |refine a8 ?_ ?_ rfl ?_
   |apply ba
   |apply bc
   |(refine bf (fun hc=>?_) fun hc=>?_<;>first|(cases hc;done)|(exfalso;(simp at hc<;>omega))|(try simp only[bn]at hc;try contradiction))
   |skip))
 refine bF s.graphs.length (fun _=>True) (fun k=>[(1,.pv (aa v)),(2,.ptr 0 0 0),(6,.ref 1 br.length 0 br.length),(7,.ref 2 (fv (fun g=>ot g.size.toNat (eG g v)) s.graphs zg k).length 0 (fv (fun g=>ot g.size.toNat (eG g v)) s.graphs zg k).length),(9,.pv (.int .i64 k))])
  (fun k=>[Dp s,EU br,EU (fv (fun g=>ot g.size.toNat (eG g v)) s.graphs zg k)]) trivial (by (repeat' (first|exact trivial|refine And.intro (by first|rfl|(simp[get,Nat.beq,fv];done)|(simp[get,Nat.beq,fv];omega)|(dsimp only[get];congr 1<;>first|rfl|omega|(simp;done)|(simp;omega))) ?_))) ⟨[],rfl⟩ (fun _=>⟨Nat.zero_le _,rfl,by simp[aM,dA]⟩) fun k hk _=>?_
 by_cases hlg:k<s.graphs.length
 ·have e:=dC nC s.graphs k zg hlg;have e2:(s.graphs.flatMap eX)[k*3+1]?.getD default= .int .i64 (s.graphs.getD k zg).size:=by rw[bZ nC s.graphs k zg 1 hlg (by omega)];rfl
  have hgo:=List.all_eq_true.mp k6 _ (aT (d:=zg) hlg);have hed:=Dl v (s.graphs.getD k zg) (by rw[hl];exact hgo) (by omega);have hbl:=qf (fun g:Gr=>ot g.size.toNat (eG g v)) s.graphs zg k;rw[fv];generalize s.graphs.getD k zg=g at *;have hel:=sY g v;simp only[bX,aK,Bool.and_eq_true,decide_eq_true_eq]at hgo;obtain⟨⟨⟨⟨⟨g1,g2⟩,g3⟩,g4⟩,g5⟩,g6⟩:=hgo;obtain⟨n,hn⟩:∃n:Nat,g.size=n:=⟨g.size.toNat,by omega⟩
  have hac:=yV n (eG g v) (by omega) (by omega) (by
   rw[hel];rw[hn]at g5;have:(n:Int)*n=((n*n:Nat):Int):=by simp
   omega)
  generalize fv (fun g:Gr=>ot g.size.toNat (eG g v)) s.graphs zg k=w at *;have e7:=cJ w;generalize eG g v=es at *;obtain⟨fi,_,le⟩:=g;simp only at *;subst hn;rw[Int.toNat_natCast];generalize ot n es=q at *;unfold aa bE at hed;unfold bE at hac;cases q with
  |true =>
   simp only[if_true,List.append_nil];repeat' (first
    |((with_reducible show aH _);(simp only[vb,lb,e,e2,f2,hlg,eX,aa,hed,hac];and_intros<;>first|omega|(simp<;>omega)))
    |((with_reducible show aP _);first|exact True.intro|((try dsimp only[go_sem]);(simp[vb,e,e2,f2,hlg,eX,aa,hed,hac]<;>omega)))
    |exact(rfl:some _=_)
    |(
     fail_if_success refine a7 ?_
     refine eW [(122,fun _=>some (.sl es.length (es.flatMap dT))),(121,fun _=>some (.bool true))] [(53,{val:=some (.pv (.int .i64 n))}),(58,{val:=some (.pv (.agg [.int .i64 fi,.int .i64 n,.sl le.length (le.flatMap bS)]))})] ?_;repeat1' dsimp only[c93,ae,ax,aE,aA,aa,go_sem]
     first
     |refine a8 ?_ ?_ rfl ?_
     |apply ba
     |apply bc
     |(refine bf (fun hc=>?_) fun hc=>?_<;>first|(cases hc;done)|(exfalso;(simp at hc<;>omega))|(try simp only[bn]at hc;try contradiction))
     |skip))
   exact⟨hlg,trivial,by (repeat' (first|exact trivial|refine And.intro (by first|rfl|(simp[get,Nat.beq];done)|(simp[get,Nat.beq];omega)|(dsimp only[get];congr 1<;>first|rfl|omega|(simp;done)|(simp;omega))) ?_)),_,rfl⟩
  |false =>
   simp only[Bool.false_eq_true,if_false];repeat' (first
    |((with_reducible show aH _);(simp only[vb,lb,e,e2,e7,f2,hlg,eX,aa,hed,hac];and_intros<;>first|omega|(simp<;>omega)))
    |((with_reducible show aP _);first|exact True.intro|((try dsimp only[go_sem]);(simp[vb,e,e2,e7,f2,hlg,eX,aa,hed,hac]<;>omega)))
    |exact(rfl:some _=_)
    |(
     fail_if_success refine a7 ?_
     refine eW [(122,fun _=>some (.sl es.length (es.flatMap dT))),(121,fun _=>some (.bool false))] [(53,{val:=some (.pv (.int .i64 n))}),(58,{val:=some (.pv (.agg [.int .i64 fi,.int .i64 n,.sl le.length (le.flatMap bS)]))}),(66,{mode:=1})] ?_;repeat1' dsimp only[c93,ae,ax,aE,aA,aa,go_sem]
     first
     |refine a8 ?_ ?_ rfl ?_
     |apply ba
     |apply bc
     |(refine bf (fun hc=>?_) fun hc=>?_<;>first|(cases hc;done)|(exfalso;(simp at hc<;>omega))|(try simp only[bn]at hc;try contradiction))
     |skip))
   exact⟨hlg,trivial,by (repeat' (first|exact trivial|refine And.intro (by first|rfl|(simp[get,Nat.beq];done)|(simp[get,Nat.beq];omega)|(dsimp only[get];congr 1<;>first|rfl|omega|(simp;done)|(simp;omega))) ?_)),[],by simp[List.flatMap_append,bS]⟩
 ·obtain rfl:k=s.graphs.length:=by omega
  generalize fv (fun g:Gr=>ot g.size.toNat (eG g v)) s.graphs zg s.graphs.length=bg at *;have e9:=cJ bg;repeat' (first
   |((with_reducible show aH _);first|exact True.intro|(simp only[vb,lb,hlg];and_intros<;>first|omega|(simp<;>omega)))
   |((with_reducible show aP _);exact True.intro)
   |exact(rfl:some _=_)
   |(
    fail_if_success refine a7 ?_
    refine aV ?_;repeat1' dsimp only[c93,ae,ax,aE,aA,aa,go_sem]
    first
    |refine a8 ?_ ?_ rfl ?_
    |apply ba
    |apply bc
    |(refine bf (fun hc=>?_) fun hc=>?_<;>first|(cases hc;done)|(exfalso;(simp at hc<;>omega))|(try simp only[bn]at hc;try contradiction))
    |skip))
  exact tG (lp rfl rfl rfl (by rw[List.drop_zero,List.take_of_length_le (by simp only[List.length_map];omega)]) (by simp only[List.length_map];omega)) (lp rfl rfl rfl (by rw[List.drop_zero,List.take_of_length_le (by simp only[List.length_map];omega)]) (by simp only[List.length_map];omega))
set_option maxHeartbeats 8000000 in
theorem EV (s:Sy) (hs:zO s) (v:List Int) (h:s8 s v):ah ctx 94 [.agg [ae s.box,ax s.rows,aE s.graphs,aA s.cases],aa v]
  (.tup [.int .i64 (kF v s.cases 0).1,.bool (kF v s.cases 0).2]):=by
 have hbd:=h.bd;have h1:=xx s hs h.k v h.i hbd;have hk:=h.k;have hl:=h.i.len;simp only[gJ,fQ,Bool.and_eq_true,decide_eq_true_eq]at hk;obtain⟨⟨⟨⟨⟨⟨⟨k1,k1'⟩,k2⟩,k3⟩,k4⟩,k5⟩,k6⟩,k7⟩:=hk;have f2:=kU s.cases;unfold ae ax aE aA at h1;unfold aa at h1;generalize hres:kF v s.cases 0=res;refine ar (C:=ctx) (Fn.of Ii rfl) rfl ?_;unfold ET;repeat' (first
  |((with_reducible show aH _);first|exact True.intro|(simp only[vb,lb,h1];and_intros<;>first|omega|(simp<;>omega)))
  |((with_reducible show aP _);first|exact True.intro|((try dsimp only[go_sem]);(simp[vb,h1]<;>omega)))
  |exact(rfl:some _=_)
  |(
   fail_if_success refine a7 ?_
   refine iF [(119,fun _=>some (.bool true))] ?_;repeat1' dsimp only[ET,ae,ax,aE,aA,aa,go_sem]
   first
   |refine a8 ?_ ?_ rfl ?_
   |apply ba
   |apply bc
   |(refine bf (fun hc=>?_) fun hc=>?_<;>first|(cases hc;done)|(try simp only[bn]at hc;try contradiction))
   |skip))
 refine bF s.cases.length (fun k=>kF v (s.cases.drop k) k=res) (fun k=>[(1,.pv (aa v)),(2,.ptr 0 0 0),(6,.pv (.int .i64 k))]) (fun _=>[Dp s]) hres (by (repeat' (first|exact trivial|refine And.intro (by first|rfl|(simp[get,Nat.beq];done)|(simp[get,Nat.beq];omega)|(dsimp only[get];congr 1<;>first|rfl|omega|(simp;done)|(simp;omega))) ?_))) ⟨_,rfl⟩ (fun _=>⟨Nat.zero_le _,rfl,by simp[aM,dA]⟩) fun k hk hP=>?_
 by_cases hlt:k<s.cases.length
 ·have e:=ma s.cases k hlt;have hmem:=aT (d:=([]:List Rw)) hlt;have hcl:=hs.cl _ hmem;have hct:=hs.ct _ hmem;have hco:=List.all_eq_true.mp k7 _ hmem;simp only[gy,fQ,Bool.and_eq_true,decide_eq_true_eq]at hco;obtain⟨co1,co2,co3⟩:=hco;rw[fM s.cases k [] hlt,kF]at hP;generalize s.cases.getD k []=cs at *;have f3:=j7 cs;repeat' (first
   |((with_reducible show aH _);first|exact True.intro|(simp only[vb,lb,hlt];and_intros<;>first|omega|(simp<;>omega)))
   |((with_reducible show aP _);exact True.intro)
   |exact(rfl:some _=_)
   |(
    fail_if_success refine a7 ?_
    refine aV ?_;repeat1' dsimp only[ET,ae,ax,aE,aA,aa,go_sem]
    first
    |refine a8 ?_ ?_ rfl ?_
    |apply ba
    |apply bc
    |(refine bf (fun hc=>?_) fun hc=>?_<;>first|(cases hc;done)|(exfalso;(simp at hc<;>omega))|(try simp only[bn]at hc;try contradiction))
    |skip))
  refine bF cs.length (fun _=>True) (fun j=>[(1,.pv (aa v)),(2,.ptr 0 0 0),(6,.pv (.int .i64 k)),(7,.pv (.bool (fN v (cs.take j)))),(8,.pv (.int .i64 j))]) (fun _=>[Dp s]) trivial (by (repeat' (first|exact trivial|refine And.intro (by first|rfl|(simp[get,Nat.beq];done)|(simp[get,Nat.beq];omega)|(dsimp only[get];congr 1<;>first|rfl|omega|(simp;done)|(simp;omega))) ?_))) ⟨_,rfl⟩ (fun _=>⟨Nat.zero_le _,rfl,by simp[aM,dA]⟩) fun j hj _=>?_
  by_cases hjt:j<cs.length
  ·have e1:=dC j6 cs j zw hjt;have e2:(cs.flatMap eZ)[j*2+1]?.getD default= .int .i64 (cs.getD j zw).bound:=by rw[bZ j6 cs j zw 1 hjt (by omega)];rfl
   have hm:=aT (d:=zw) hjt;have hv:=xw v (cs.getD j zw) hbd (by rw[hl];exact List.all_eq_true.mp co3 _ hm) (hct _ hm);have hst:fN v (cs.take (j+1))=(fN v (cs.take j)&&decide (fR v (cs.getD j zw).terms≤(cs.getD j zw).bound)):=ew _ cs j zw hjt;rw[hst];clear hst;generalize fN v (cs.take j)=q at *;generalize cs.getD j zw=x at *;obtain⟨ts,bd⟩:=x;simp only at *;generalize fR v ts=sm at *;unfold aa at hv;by_cases hsm:sm≤bd
   ·rw[decide_eq_true hsm,Bool.and_true];have hsm':¬bd<sm:=by omega
    repeat' (first
     |((with_reducible show aH _);first|exact True.intro|(simp only[vb,lb,e,e1,e2,f2,f3,hlt,hjt,eZ,au,hv,hsm'];and_intros<;>first|omega|(simp<;>omega)))
     |((with_reducible show aP _);first|exact True.intro|((try dsimp only[go_sem]);first|(simp[vb,e,e1,e2,f2,f3,hlt,hjt,eZ,au,hv,hsm']<;>omega)|(simp only[vb,and_true,true_implies];(repeat' (first|(with_reducible assumption)|(with_reducible apply And.intro)|intro _|((fail_if_success (with_reducible show(_:Int)≤_));assumption)))<;>first|(simp only[ab,e,e1,e2,f2,f3,hlt,hjt,eZ,au,hv,hsm'];done)|(simp[Nat.mul_one,e,e1,e2,f2,f3,hlt,hjt,eZ,au,hv,hsm']<;>omega))))
     |exact(rfl:some _=_)
     |(
      fail_if_success refine a7 ?_
      refine eW [(120,fun _=>some (.int .i64 sm))] [(25,{val:=some (.pv (.sl cs.length (cs.flatMap eZ)))}),(34,{val:=some (.pv (.sl cs.length (cs.flatMap eZ)))}),(37,{val:=some (.pv (.agg [.sl ts.length (ts.flatMap kG),.int .i64 bd]))}),(44,{val:=some (.pv (.sl cs.length (cs.flatMap eZ)))}),(48,{val:=some (.pv (.int .i64 bd))})] ?_;repeat1' dsimp only[ET,ae,ax,aE,aA,aa,au,go_sem]
      first
      |refine a8 ?_ ?_ rfl ?_
      |apply ba
      |apply bc
      |(refine bf (fun hc=>?_) fun hc=>?_<;>first|(cases hc;done)|(exfalso;(simp at hc<;>omega))|(try simp only[bn]at hc;try contradiction))
      |skip))
    exact⟨hjt,trivial,by (repeat' (first|exact trivial|refine And.intro (by first|rfl|(simp[get,Nat.beq];done)|(simp[get,Nat.beq];omega)|(dsimp only[get];congr 1<;>first|rfl|omega|(simp;done)|(simp;omega))) ?_)),_,rfl⟩
   ·rw[decide_eq_false hsm,Bool.and_false];have hsm':bd<sm:=by omega
    repeat' (first
     |((with_reducible show aH _);first|exact True.intro|(simp only[vb,lb,e,e1,e2,f2,f3,hlt,hjt,eZ,au,hv,hsm'];and_intros<;>first|omega|(simp<;>omega)))
     |((with_reducible show aP _);first|exact True.intro|((try dsimp only[go_sem]);first|(simp[vb,e,e1,e2,f2,f3,hlt,hjt,eZ,au,hv,hsm']<;>omega)|(simp only[vb,and_true,true_implies];(repeat' (first|(with_reducible assumption)|(with_reducible apply And.intro)|intro _|((fail_if_success (with_reducible show(_:Int)≤_));assumption)))<;>first|(simp only[ab,e,e1,e2,f2,f3,hlt,hjt,eZ,au,hv,hsm'];done)|(simp[Nat.mul_one,e,e1,e2,f2,f3,hlt,hjt,eZ,au,hv,hsm']<;>omega))))
     |exact(rfl:some _=_)
     |(
      fail_if_success refine a7 ?_
      refine eW [(120,fun _=>some (.int .i64 sm))] [(25,{val:=some (.pv (.sl cs.length (cs.flatMap eZ)))}),(34,{val:=some (.pv (.sl cs.length (cs.flatMap eZ)))}),(37,{val:=some (.pv (.agg [.sl ts.length (ts.flatMap kG),.int .i64 bd]))}),(44,{val:=some (.pv (.sl cs.length (cs.flatMap eZ)))}),(48,{val:=some (.pv (.int .i64 bd))})] ?_;repeat1' dsimp only[ET,ae,ax,aE,aA,aa,au,go_sem]
      first
      |refine a8 ?_ ?_ rfl ?_
      |apply ba
      |apply bc
      |(refine bf (fun hc=>?_) fun hc=>?_<;>first|(cases hc;done)|(exfalso;(simp at hc<;>omega))|(try simp only[bn]at hc;try contradiction))
      |skip))
    exact⟨hjt,trivial,by (repeat' (first|exact trivial|refine And.intro (by first|rfl|(simp[get,Nat.beq];done)|(simp[get,Nat.beq];omega)|(dsimp only[get];congr 1<;>first|rfl|omega|(simp;done)|(simp;omega))) ?_)),_,rfl⟩
  ·obtain rfl:j=cs.length:=by omega
   rw[List.take_length];generalize fN v cs=q at *;cases q with
   |true =>
    simp only[if_true]at hP;subst hP;repeat' (first
     |((with_reducible show aH _);first|exact True.intro|(simp only[vb,lb,e,f2,hlt,hjt];and_intros<;>first|omega|(simp<;>omega)))
     |((with_reducible show aP _);first|exact True.intro|((try dsimp only[go_sem]);(simp[vb,e,f2,hlt,hjt]<;>omega)))
     |exact(rfl:some _=_)
     |(
      fail_if_success refine a7 ?_
      refine bJ [(25,{val:=some (.pv (.sl cs.length (cs.flatMap eZ)))})] ?_;repeat1' dsimp only[ET,ae,ax,aE,aA,aa,go_sem]
      first
      |refine a8 ?_ ?_ rfl ?_
      |apply ba
      |apply bc
      |(refine bf (fun hc=>?_) fun hc=>?_<;>first|(cases hc;done)|(exfalso;(simp at hc<;>omega))|(try simp only[bn]at hc;try contradiction))
      |skip))
   |false =>
    simp only[Bool.false_eq_true,if_false]at hP;repeat' (first
     |((with_reducible show aH _);first|exact True.intro|(simp only[vb,lb,e,f2,hlt,hjt];and_intros<;>first|omega|(simp<;>omega)))
     |((with_reducible show aP _);first|exact True.intro|((try dsimp only[go_sem]);(simp[vb,e,f2,hlt,hjt]<;>omega)))
     |exact(rfl:some _=_)
     |(
      fail_if_success refine a7 ?_
      refine bJ [(25,{val:=some (.pv (.sl cs.length (cs.flatMap eZ)))})] ?_;repeat1' dsimp only[ET,ae,ax,aE,aA,aa,go_sem]
      first
      |refine a8 ?_ ?_ rfl ?_
      |apply ba
      |apply bc
      |(refine bf (fun hc=>?_) fun hc=>?_<;>first|(cases hc;done)|(exfalso;(simp at hc<;>omega))|(try simp only[bn]at hc;try contradiction))
      |skip))
    exact⟨hlt,hP,by (repeat' (first|exact trivial|refine And.intro (by first|rfl|(simp[get,Nat.beq];done)|(simp[get,Nat.beq];omega)|(dsimp only[get];congr 1<;>first|rfl|omega|(simp;done)|(simp;omega))) ?_)),_,rfl⟩
 ·obtain rfl:k=s.cases.length:=by omega
  rw[List.drop_length,kF]at hP;subst hP;repeat' (first
   |((with_reducible show aH _);first|exact True.intro|(simp only[vb,lb,hlt];and_intros<;>first|omega|(simp<;>omega)))
   |((with_reducible show aP _);exact True.intro)
   |exact(rfl:some _=_)
   |(
    fail_if_success refine a7 ?_
    refine aV ?_;repeat1' dsimp only[ET,ae,ax,aE,aA,aa,go_sem]
    first
    |refine a8 ?_ ?_ rfl ?_
    |apply ba
    |apply bc
    |(refine bf (fun hc=>?_) fun hc=>?_<;>first|(cases hc;done)|(exfalso;(simp at hc<;>omega))|(try simp only[bn]at hc;try contradiction))
    |skip))
set_option maxHeartbeats 8000000 in
theorem Dr (s:Sy) (hs:zO s) (v:List Int) (h:s8 s v):ah ctx 63 [.agg [ae s.box,ax s.rows,aE s.graphs,aA s.cases],aa v] (.bool (qe s v)):=by
 have h1:=fO s hs;rw[h.k]at h1;have h2:=qB s.box v hs.b h.i;have h3:=Dq s hs v h;have h4:=EV s hs v h;have b1:=qg (fun r:Rw=>decide (fR v r.terms≤r.bound)) s.rows zw s.rows.length (Nat.le_refl _);have b2:=qg (fun g:Gr=>ot g.size.toNat (eG g v)) s.graphs zg s.graphs.length (Nat.le_refl _);have b3:=s7 v s.cases 0;have hh:qe s v=(fN v s.rows&&ou v s.graphs&&(decide (s.cases.length=0)||(kF v s.cases 0).2)):=by rw[b3];rfl
 rw[List.take_length]at b1 b2;rw[hh,show fN v s.rows=decide ((fv (fun r:Rw=>decide (fR v r.terms≤r.bound)) s.rows zw s.rows.length).length=0) from b1.symm,show ou v s.graphs=decide ((fv (fun g:Gr=>ot g.size.toNat (eG g v)) s.graphs zg s.graphs.length).length=0) from b2.symm];clear hh b1 b2 b3;generalize fv (fun r:Rw=>decide (fR v r.terms≤r.bound)) s.rows zw s.rows.length=x1 at *;generalize fv (fun g:Gr=>ot g.size.toNat (eG g v)) s.graphs zg s.graphs.length=x2 at *;generalize kF v s.cases 0=x3 at *;obtain⟨i,q⟩:=x3;simp only at *
 have f3:=kU s.cases;have hcl:=hs.c;generalize s.cases=cs at *;unfold ae ax aE aA at h1 h3 h4;unfold ae at h2;unfold aa at h2 h3 h4;refine ar (C:=ctx) (Fn.of Ik rfl) rfl ?_;unfold Ij;repeat' (first
  |((with_reducible show aH _);first|exact True.intro|(simp only[vb,lb,h1,h2,h3,h4];and_intros<;>first|omega|(simp<;>omega)))
  |((with_reducible show aP _);first|exact True.intro|((try dsimp only[go_sem]);first|(simp[vb,h1,h2,h3,h4]<;>omega)|(simp only[vb,and_true,true_implies];(repeat' (first|(with_reducible assumption)|(with_reducible apply And.intro)|intro _|((fail_if_success (with_reducible show(_:Int)≤_));assumption)))<;>first|omega|(simp_all;done))))
  |exact(rfl:some _=_)
  |(
   fail_if_success refine a7 ?_
   refine iF [(30,fun _=>some (.bool true)),(92,fun _=>some (.bool true)),(93,fun _=>some (.tup [.sl x1.length (x1.flatMap bS),.sl x2.length (x2.flatMap bS)])),(94,fun _=>some (.tup [.int .i64 i,.bool q]))] ?_;repeat1' dsimp only[Ij,ae,ax,aE,aA,aa,go_sem]
   first
   |refine a8 ?_ ?_ rfl ?_
   |apply ba
   |apply bc
   |(refine bf (fun hc=>?_) fun hc=>?_<;>first|(cases hc;done)|(try simp only[bn]at hc;try contradiction))
   |skip))
 have hz:∀n:Nat,((n:Int)==0)=decide (n=0):=fun n=>by by_cases h:n=0<;>simp[h]
 rw[hz,hz,hz];generalize decide (x1.length=0)=z1;generalize decide (x2.length=0)=z2;generalize decide (cs.length=0)=z3;cases z1<;>cases z2<;>cases z3<;>rfl
set_option maxHeartbeats 8000000 in
theorem vu (s:Sy) (hs:zO s) (hk:gJ s=true) (hn:∀v,eM s.box v→qe s v=false):ah ctx 31 [.agg [ae s.box,ax s.rows,aE s.graphs,aA s.cases]] (.sl 0 []):=by
 have h1:=fO s hs;rw[hk]at h1;have h2:=Dm s.box hs.b;have hk':=hk;simp only[gJ,fQ,Bool.and_eq_true,decide_eq_true_eq]at hk';obtain⟨⟨⟨⟨⟨⟨⟨k1,k1'⟩,k2⟩,k3⟩,k4⟩,k5⟩,k6⟩,k7⟩:=hk';have hlo:eM s.box (jQ s.box):=EG (by simpa using k2);unfold ae ax aE aA at h1;unfold ae aa at h2;refine ar (C:=ctx) (Fn.of Il rfl) rfl ?_;unfold c31;repeat' (first
  |((with_reducible show aH _);first|exact True.intro|(simp only[vb,lb,h1,h2];and_intros<;>first|omega|(simp<;>omega)))
  |((with_reducible show aP _);first|exact True.intro|((try dsimp only[go_sem]);(simp[vb,h1,h2]<;>omega)))
  |exact(rfl:some _=_)
  |(
   fail_if_success refine a7 ?_
   refine iF [(30,fun _=>some (.bool true)),(62,fun _=>some (.sl (jQ s.box).length ((jQ s.box).flatMap bS)))] ?_;repeat1' dsimp only[c31,ae,ax,aE,aA,aa,go_sem]
   first
   |refine a8 ?_ ?_ rfl ?_
   |apply ba
   |apply bc
   |(refine bf (fun hc=>?_) fun hc=>?_<;>first|(cases hc;done)|(try simp only[bn]at hc;try contradiction))
   |skip))
 refine dY (σ:=Option (List Int)) (fun o=>∀v,o=some v→eM s.box v) (fun o=>[(1,.ptr 0 0 0),(3,.pv (.sl 0 [])),(4,.pv (match o with|some v=>aa v|none=>.nilsl)),(5,.pv (.bool o.isSome))]) (fun _=>[Dp s]) (fun o=>match o with|some v=>kE s.box v+1|none=>0) (some (jQ s.box)) (fun v h=>by injection h with h;subst h;exact hlo) (by (repeat' (first|exact trivial|refine And.intro (by first|rfl|(simp[get,Nat.beq];done)|(simp[get,Nat.beq];omega)|(dsimp only[get];congr 1<;>first|rfl|omega|(simp;done)|(simp;omega))) ?_))) ⟨_,rfl⟩ (fun _ _=>⟨Nat.zero_le _,rfl,by simp[aM,dA]⟩) fun o ho=>?_
 clear h1 h2;cases o with
 |none =>
  simp only[Option.isSome_none];repeat' (first
   |((with_reducible show aH _);exact True.intro)
   |((with_reducible show aP _);exact True.intro)
   |exact(rfl:some _=_)
   |(
    fail_if_success refine a7 ?_
    refine aV ?_;repeat1' dsimp only[c31,ae,ax,aE,aA,aa,go_sem]
    first
    |refine a8 ?_ ?_ rfl ?_
    |apply ba
    |apply bc
    |(refine bf (fun hc=>?_) fun hc=>?_<;>first|(cases hc;done)|(try simp only[bn]at hc;try contradiction))
    |skip))
 |some v =>
  have hv:=ho v rfl;have h1:=Dr s hs v ⟨hk,hv⟩;rw[hn v hv]at h1;have h2:=ES s.box v k1 hv;have h3:=fun w=>EH (w:=w) hv
  generalize nK s.box v s.box.length=nx at *;unfold ae ax aE aA at h1;unfold ae at h2;unfold aa at h1 h2;simp only[Option.isSome_some];cases nx with
  |none =>
   simp only[uv]at h2;repeat' (first
    |((with_reducible show aH _);first|exact True.intro|(simp only[vb,lb,h1,h2];and_intros<;>first|omega|(simp<;>omega)))
    |((with_reducible show aP _);first|exact True.intro|((try dsimp only[go_sem]);(simp[vb,h1,h2]<;>omega)))
    |exact(rfl:some _=_)
    |(
     fail_if_success refine a7 ?_
     refine iF [(63,fun _=>some (.bool false)),(64,fun _=>some (.tup [.nilsl,.bool false]))] ?_;repeat1' dsimp only[c31,ae,ax,aE,aA,aa,go_sem]
     first
     |refine a8 ?_ ?_ rfl ?_
     |apply ba
     |apply bc
     |(refine bf (fun hc=>?_) fun hc=>?_<;>first|(cases hc;done)|(try simp only[bn]at hc;try contradiction))
     |skip))
   exact⟨none,by show 0<_+1;omega,fun v h=>(by cases h),by (repeat' (first|exact trivial|refine And.intro (by first|rfl|(simp[get,Nat.beq];done)|(simp[get,Nat.beq];omega)|(dsimp only[get];congr 1<;>first|rfl|omega|(simp;done)|(simp;omega))) ?_)),_,rfl⟩
  |some w =>
   obtain⟨g1,g2⟩:=h3 w rfl;simp only[uv]at h2;unfold aa at h2;repeat' (first
    |((with_reducible show aH _);first|exact True.intro|(simp only[vb,lb,h1,h2];and_intros<;>first|omega|(simp<;>omega)))
    |((with_reducible show aP _);first|exact True.intro|((try dsimp only[go_sem]);(simp[vb,h1,h2]<;>omega)))
    |exact(rfl:some _=_)
    |(
     fail_if_success refine a7 ?_
     refine iF [(63,fun _=>some (.bool false)),(64,fun _=>some (.tup [.sl w.length (w.flatMap bS),.bool true]))] ?_;repeat1' dsimp only[c31,ae,ax,aE,aA,aa,go_sem]
     first
     |refine a8 ?_ ?_ rfl ?_
     |apply ba
     |apply bc
     |(refine bf (fun hc=>?_) fun hc=>?_<;>first|(cases hc;done)|(try simp only[bn]at hc;try contradiction))
     |skip))
   exact⟨some w,by show kE s.box w+1<kE s.box v+1;omega,fun v h=>(by injection h with h;subst h;exact g1),by (repeat' (first|exact trivial|refine And.intro (by first|rfl|(simp[get,Nat.beq];done)|(simp[get,Nat.beq];omega)|(dsimp only[get];congr 1<;>first|rfl|omega|(simp;done)|(simp;omega))) ?_)),_,rfl⟩
end Pur
end
section
namespace Pur
open Go.RowKit
attribute [local go_sem] bI fa bR bu cS gf List.map aX aG get put tmpsOf dF iW gF iG conds ev cond_true cond_false Nat.beq Nat.ble Nat.add quiet dG cf cF pn List.append_eq List.nil_append List.cons_append dE cy cz cA cB cC cD fg eY dv jb dH calm quiet.isCallK cH List.getElem?_cons_zero List.getElem?_cons_succ bp b6 cellsOf List.all bC List.length_cons List.length_nil eP a6 List.drop List.take List.getD Option.getD_some qR qS qF qT qU qV eB gC eC eD setAt List.set Nat.reduceAdd Nat.reduceMul b9 bw refsOf bG bM scalar cd ef bL ca aN after freeze im gT aS dx dQ dt eH c6 c7 cj da db de dh di dj dk dm dn dp dq ck cp cu dw jc bytesOf bH cU aQ bD dS bA bT cI still bW ed dy dW bP eI List.isEmpty cv cw cx Int.reduceToNat Nat.mul_one Nat.reduceSub oM cV b7 dK cG look dL strip guarded fV eK eO cK dV cY hJ dc dd Bool.or_false Bool.or_true Bool.and_true Bool.and_false Nat.blt gg fx gq dD idxOf gU gV iX eV aN mI
section
open Rf
def c8:ay:=(⟨_,by conv=>(lhs;reduce;try simp only[eA,Int.cast_ofNat_Int,Int.reduceNegSucc,UInt8.reduceOfNat])⟩:{x // codeOf Tryz.prog 8 (fun _=>false)=some x}).1
theorem GB:bK Tryz.prog 8 (fun _=>false)=some (c8,[.t 4],29,true):=by kernel_rfl
set_option maxHeartbeats 8000000 in
theorem Ds (s:Sy) (hs:zO s) (t:Tree) (hw:vf 1048576 t):ah ctx 8 [.agg [ae s.box,ax s.rows,aE s.graphs,aA s.cases],aI t] (.bool true):=by
 have h0:=C1;have h1:=Gu s hs 2000;have h2:=AP t hw 300 (by omega) (by omega);generalize Gt s 2000=fb at *;unfold ae ax aE aA at h1;by_cases hwt:(wt t:Int)≤300
 ·have h3:=Dg s hs t (by omega);rw[decide_eq_true hwt]at h2;by_cases hck:pT s t=true
  ·have hsnd:=check_sound hck;rw[hck]at h3;simp only[pT,Bool.and_eq_true]at hck;have hsy:=hck.1.1;have h4:=fO s hs;have h5:=vu s hs hsy hsnd;rw[hsy]at h4;unfold ae ax aE aA at h3 h4 h5;unfold aI ai az at h2 h3;cases fb with
   |false =>
    refine ar (C:=ctx) (Fn.of GB rfl) rfl ?_;unfold c8;repeat' (first
     |((with_reducible show aH _);first|exact True.intro|(simp only[vb,lb,h0,h1,h2,h3];and_intros<;>first|omega|(simp<;>omega)))
     |((with_reducible show aP _);first|exact True.intro|((try dsimp only[go_sem]);(simp[vb,h0,h1,h2,h3]<;>omega)))
     |exact(rfl:some _=_)
     |(
      fail_if_success refine a7 ?_
      refine iF [(11,fun _=>some (.bool true)),(21,fun _=>some (.bool false)),(12,fun _=>some (.bool true)),(22,fun _=>some (.bool true))] ?_;repeat1' dsimp only[c8,aI,Tree.kind,Tree.steps,Tree.cell,Tree.pos,Tree.kids,ai,az,ae,ax,aE,aA,go_sem]
      first
      |refine a8 ?_ ?_ rfl ?_
      |apply ba
      |apply bc
      |(refine bf (fun hc=>?_) fun hc=>?_<;>first|(cases hc;done)|(try simp only[bn]at hc;try contradiction))
      |skip))
   |true =>
    refine ar (C:=ctx) (Fn.of GB rfl) rfl ?_;unfold c8;repeat' (first
     |((with_reducible show aH _);first|exact True.intro|(simp only[vb,lb,h0,h1,h2,h3,h4,h5];and_intros<;>first|omega|(simp<;>omega)))
     |((with_reducible show aP _);first|exact True.intro|((try dsimp only[go_sem]);first|(simp[vb,h0,h1,h2,h3,h4,h5]<;>omega)|(simp only[vb,and_true,true_implies];(repeat' (first|(with_reducible assumption)|(with_reducible apply And.intro)|intro _|((fail_if_success (with_reducible show(_:Int)≤_));assumption)))<;>omega)))
     |exact(rfl:some _=_)
     |(
      fail_if_success refine a7 ?_
      refine iF [(11,fun _=>some (.bool true)),(21,fun _=>some (.bool true)),(12,fun _=>some (.bool true)),(22,fun _=>some (.bool true)),(30,fun _=>some (.bool true)),(31,fun _=>some (.sl 0 []))] ?_;repeat1' dsimp only[c8,aI,Tree.kind,Tree.steps,Tree.cell,Tree.pos,Tree.kids,ai,az,ae,ax,aE,aA,go_sem]
      first
      |refine a8 ?_ ?_ rfl ?_
      |apply ba
      |apply bc
      |(refine bf (fun hc=>?_) fun hc=>?_<;>first|(cases hc;done)|(try simp only[bn]at hc;try contradiction))
      |skip))
  ·rw[Bool.eq_false_iff.mpr hck]at h3;unfold ae ax aE aA at h3;unfold aI ai az at h2 h3;cases fb with
   |false =>
    refine ar (C:=ctx) (Fn.of GB rfl) rfl ?_;unfold c8;repeat' (first
     |((with_reducible show aH _);first|exact True.intro|(simp only[vb,lb,h0,h1,h2,h3];and_intros<;>first|omega|(simp<;>omega)))
     |((with_reducible show aP _);first|exact True.intro|((try dsimp only[go_sem]);(simp[vb,h0,h1,h2,h3]<;>omega)))
     |exact(rfl:some _=_)
     |(
      fail_if_success refine a7 ?_
      refine iF [(11,fun _=>some (.bool true)),(21,fun _=>some (.bool false)),(12,fun _=>some (.bool true)),(22,fun _=>some (.bool false))] ?_;repeat1' dsimp only[c8,aI,Tree.kind,Tree.steps,Tree.cell,Tree.pos,Tree.kids,ai,az,ae,ax,aE,aA,go_sem]
      first
      |refine a8 ?_ ?_ rfl ?_
      |apply ba
      |apply bc
      |(refine bf (fun hc=>?_) fun hc=>?_<;>first|(cases hc;done)|(try simp only[bn]at hc;try contradiction))
      |skip))
   |true =>
    refine ar (C:=ctx) (Fn.of GB rfl) rfl ?_;unfold c8;repeat' (first
     |((with_reducible show aH _);first|exact True.intro|(simp only[vb,lb,h0,h1,h2,h3];and_intros<;>first|omega|(simp<;>omega)))
     |((with_reducible show aP _);first|exact True.intro|((try dsimp only[go_sem]);first|(simp[vb,h0,h1,h2,h3]<;>omega)|(simp only[vb,and_true,true_implies];(repeat' (first|(with_reducible assumption)|(with_reducible apply And.intro)|intro _|((fail_if_success (with_reducible show(_:Int)≤_));assumption)))<;>omega)))
     |exact(rfl:some _=_)
     |(
      fail_if_success refine a7 ?_
      refine iF [(11,fun _=>some (.bool true)),(21,fun _=>some (.bool true)),(12,fun _=>some (.bool true)),(22,fun _=>some (.bool false))] ?_;repeat1' dsimp only[c8,aI,Tree.kind,Tree.steps,Tree.cell,Tree.pos,Tree.kids,ai,az,ae,ax,aE,aA,go_sem]
      first
      |refine a8 ?_ ?_ rfl ?_
      |apply ba
      |apply bc
      |(refine bf (fun hc=>?_) fun hc=>?_<;>first|(cases hc;done)|(try simp only[bn]at hc;try contradiction))
      |skip))
 ·rw[decide_eq_false hwt]at h2;unfold aI ai az at h2;cases fb with
  |false =>
   refine ar (C:=ctx) (Fn.of GB rfl) rfl ?_;unfold c8;repeat' (first
    |((with_reducible show aH _);first|exact True.intro|(simp only[vb,lb,h0,h1,h2];and_intros<;>first|omega|(simp<;>omega)))
    |((with_reducible show aP _);first|exact True.intro|((try dsimp only[go_sem]);(simp[vb,h0,h1,h2]<;>omega)))
    |exact(rfl:some _=_)
    |(
     fail_if_success refine a7 ?_
     refine iF [(11,fun _=>some (.bool true)),(21,fun _=>some (.bool false)),(12,fun _=>some (.bool false)),(22,fun _=>some (.bool true))] ?_;repeat1' dsimp only[c8,aI,Tree.kind,Tree.steps,Tree.cell,Tree.pos,Tree.kids,ai,az,ae,ax,aE,aA,go_sem]
     first
     |refine a8 ?_ ?_ rfl ?_
     |apply ba
     |apply bc
     |(refine bf (fun hc=>?_) fun hc=>?_<;>first|(cases hc;done)|(try simp only[bn]at hc;try contradiction))
     |skip))
  |true =>
   refine ar (C:=ctx) (Fn.of GB rfl) rfl ?_;unfold c8;repeat' (first
    |((with_reducible show aH _);first|exact True.intro|(simp only[vb,lb,h0,h1,h2];and_intros<;>first|omega|(simp<;>omega)))
    |((with_reducible show aP _);first|exact True.intro|((try dsimp only[go_sem]);first|(simp[vb,h0,h1,h2]<;>omega)|(simp only[vb,and_true,true_implies];(repeat' (first|(with_reducible assumption)|(with_reducible apply And.intro)|intro _|((fail_if_success (with_reducible show(_:Int)≤_));assumption)))<;>first|omega|(simp_all;done))))
    |exact(rfl:some _=_)
    |(
     fail_if_success refine a7 ?_
     refine iF [(11,fun _=>some (.bool true)),(21,fun _=>some (.bool true)),(12,fun _=>some (.bool false)),(22,fun _=>some (.bool true))] ?_;repeat1' dsimp only[c8,aI,Tree.kind,Tree.steps,Tree.cell,Tree.pos,Tree.kids,ai,az,ae,ax,aE,aA,go_sem]
     first
     |refine a8 ?_ ?_ rfl ?_
     |apply ba
     |apply bc
     |(refine bf (fun hc=>?_) fun hc=>?_<;>first|(cases hc;done)|(try simp only[bn]at hc;try contradiction))
     |skip))
end
section
open Rf
theorem xy (qs:List PV) (h:sk Tryz.prog 1048576 [36,25] qs):ah ctx 8 qs (.bool true):=by
 match qs,h with
 |[p0,p1],h =>
  obtain⟨h0,h1,-⟩:=h;obtain⟨s,rfl,hs⟩:=IU (by omega) h0;obtain⟨t,rfl,ht⟩:=GL h1;exact Ds s hs t ht
end
end Pur
end
end Go.Proofs.YtaleoeblooeglaaGreatDoor
namespace Go.Proofs.YtaleoeblooeglaaGreatDoor.lawSound
open Go.ChangeShapes Go.WideShapes Go.ChangeAt Go.RowKit
theorem Dt (H:Type) (enc:TypeId×Value→H) (W:World) (base:Nat) (args:Array Value) (ds gs:List (DataW H)) (before:List MemPlace)
  (hval:∀(j:Nat) t v,Tryz.f8.params[j]?=some t→args[j]?=some v→Value.okWide Tryz.prog W .any base t v)
  (hW:DataW.Whole enc Tryz.prog Tryz.f8.params.toList Rows.refutationSoundSpec.vars false W args.toList ds gs before) (hk:Rows.uptoSmall H (ds++gs)=true) (hL:laidMetH Tryz.prog Rows.refutationSoundUptoRow.laid W) (hsh:W.ShapedOpen Tryz.prog) :
  Calls Tryz.prog 8 args W fun e W'=>∃v,e= .returned v∧Rows.refutationSoundSpec.post enc Tryz.prog Tryz.f8 false true false false W args v W':=by
 have hW':=hW;obtain⟨p,q,hA0,hV,rfl,hfz,hnd⟩:=hW;have hA:DataW.TrodAll enc Tryz.prog W 0 (fun _=>true) true [36,25] args.toList ds p:=hA0;obtain⟨rfl,rfl⟩:=trodVars_none hV;obtain⟨qs,hty,hps⟩:=Pur.wH (B:=1048576) (Sm:=(fun d:DataW H=>Rows.uptoBulk d≤1048576)) Pur.wG.upto (L:=[36,25,3,57,31,32,33,34,62,99,107,60,49,22,66,23]) (r:=.any) (b:=base) (by kernel_rfl) [36,25] args.toList ds p (of_decide_eq_true rfl) (fun j t v h1 h2=>hval j t v (by
  rw[Tryz.params8,List.getElem?_toArray];exact h1) (by rw[Array.getElem?_toList]at h2;exact h2)) hA (fun d hd=>Pur.Ck hk d (List.mem_append_left _ hd))
 have hst:∀(W':World) (sp:Nat→Bool),Below W.heap.size W W'→(∀x∈p++[],sp x.block=true)→DataW.TrodAll enc Tryz.prog W' 0 sp true [36,25] args.toList ds p:=fun W' sp hb hsp =>
  Pur.wI (by kernel_rfl) _ _ _ _ (of_decide_eq_true (by kernel_rfl)) (fun x hx=>Pur.yp hb (hW'.lt x (List.mem_append_left _ hx))) (fun x hx=>hsp x (List.mem_append_left _ hx)) hA
 have hE:=Cd.FM hL hsh;obtain⟨v0,vs0,d0,ds0,p0,q0,hargs,rfl,hp0,h0,r0⟩:=trodAll_cons hA;obtain⟨v1,vs1,d1,ds1,p1,q1,rfl,rfl,hp1,h1,r1⟩:=trodAll_cons r0;obtain⟨rfl,rfl,rfl⟩:=trodAll_nil r1;obtain rfl:args=#[v0,v1]:=by cases args;simp_all
 refine((Pur.xy qs hty).2 W (Pur.oU W) [v0,v1] hE (fun g h=>h) hps).mono fun e W' hh=>?_
 obtain⟨v,he,hb,hv⟩:=hh;have:=Pur.wK hv;subst this;subst he;exact⟨_,rfl,yn (pa:=p) (pv:=[]) hW' (fun _ _ _=>trodAll_cons_mk (shut_bool Tryz.underlying4 _) trodAll_mk0)
  (fun sp hsp=>hst W' sp hb hsp) (fun _ _=>rfl) rfl
  hb (ok_one (by kernel_rfl) rfl (okWide_bool_mk Tryz.underlying4 _))⟩
def start:Array Value:=#[.agg #[.slice none 0 0,.slice none 0 0,.slice none 0 0,.slice none 0 0],.agg #[.int .i64 0,.slice none 0 0,.int .i64 0,.int .i64 0,.slice none 0 0]]
theorem met (os:Os):laidMet Tryz.prog Rows.refutationSoundUptoRow.laid ((World.laidAll Tryz.prog os Rows.refutationSoundUptoRow.laid).forCall (fun _ _=>0) ⟨#[],start,[]⟩).memory :=
 laidMet_laidAll _ (by kernel_rfl) (by kernel_rfl)
theorem reads (os:Os) {H:Type} (enc:TypeId×Value→H):∃places,DataW.whole enc Tryz.prog ((World.laidAll Tryz.prog os Rows.refutationSoundUptoRow.laid).forCall (fun _ _=>0) ⟨#[],start,[]⟩).memory Tryz.f8.params.toList Rows.refutationSoundSpec.vars false start.toList 8=some ([.agg [.nil,.nil,.nil,.nil],.agg [.lit (.int .i64 0),.nil,.lit (.int .i64 0),.lit (.int .i64 0),.nil]],[],places) :=
 ⟨[],by kernel_rfl⟩
set_option maxRecDepth 100000 in
theorem lifted (os:Os) (started:os.Started) (H:Type) (enc:TypeId×Value→H) (F:Stop.Interp) :
  ReturnsInHanded {} Tryz.checked os 8 .any ((Rows.OpenSpec.upto Rows.refutationSoundSpec).preRow enc Tryz.prog Tryz.f8 Rows.refutationSoundUptoRow.domain false Rows.refutationSoundUptoRow.laid) (((Rows.OpenSpec.upto Rows.refutationSoundSpec).at F).post enc Tryz.prog Tryz.f8 false true false false):=by
 obtain⟨places,hx⟩:=reads os enc;refine returnsInHanded_of_row (C:=Tryz.checked) (s:=(Rows.OpenSpec.upto Rows.refutationSoundSpec)) Cd.own started (by kernel_rfl) Tryz.func8
  (witness_row_atRef (enc:=enc) (C:=Tryz.checked) false (World.laidAll Tryz.prog os Rows.refutationSoundUptoRow.laid) start (World.laidAll_os _ _ _) (by kernel_rfl) (by kernel_rfl) (by kernel_rfl)
   (OpenSpec.preRow_of_cond 8 hx (by kernel_rfl) (fun k hk=>by cases hk;kernel_rfl) (by kernel_rfl) (met os))) ?_
 intro W base args ds gs before hval hW _ hk _ hL hsh _;exact Dt H enc W base args ds gs before hval hW (hk _ rfl) hL hsh
theorem said:Rows.RefutationSoundUptoSaid :=
 OpenClaim.holds_of_cond 8 Tryz.f8 rfl rfl rfl rfl rfl rfl rfl ⟨rfl,rfl,rfl,rfl,rfl⟩ rfl rfl rfl rfl rfl (by kernel_rfl) Tryz.func8 (by kernel_rfl)
  (of_decide_eq_true (by kernel_rfl)) (by unfold Func.isWrapper;rw[if_neg (of_decide_eq_false (by kernel_rfl))];exact⟨rfl,rfl⟩)
  (fun os started H enc _ F=>by rw[OpenClaim.pre_eq_preRow];exact lifted os started H enc F)
theorem plain (f : FuncId) (fn : Func) (hf : Tryz.pinned.checked.prog.funcNamed "confluent/confluentlaw21.RefutationSound" = some f) (hfn : Tryz.pinned.checked.prog.funcs[f]? = some fn) :
  true=Tryz.pinned.checked.prog.looks []∧∀(j:Nat) t,fn.params[j]?=some t→Tryz.pinned.checked.prog.wantsStandIn t=false:=by
 obtain rfl : f = 8 := Option.some.inj ((show Tryz.prog.funcNamed "confluent/confluentlaw21.RefutationSound" = some 8 by kernel_rfl).symm.trans hf) |>.symm
 obtain rfl:fn=Tryz.f8:=(Option.some.inj (Tryz.func8.symm.trans hfn)).symm;refine⟨by kernel_rfl,fun j t ht=>?_⟩;rw[Tryz.params8]at ht;have hm:=Array.mem_of_getElem? ht;simp only[List.mem_toArray,List.mem_cons,List.not_mem_nil,or_false]at hm;rcases hm with rfl|rfl
 ·exact(by kernel_rfl:Tryz.prog.wantsStandIn 36=false)
 ·exact(by kernel_rfl:Tryz.prog.wantsStandIn 25=false)
theorem proved:Rows.RefutationSoundUptoCardSaid :=
 Claim7.holds_tied_plain_at .later [] _ _ _ _ said (fun _ h=>by cases h) (by kernel_rfl) (fun _ h=>by cases h) refutationSoundUpto_row_tie rfl ⟨rfl,rfl⟩ (by kernel_rfl) rfl plain (by kernel_rfl)
end Go.Proofs.YtaleoeblooeglaaGreatDoor.lawSound
