/-
  RefutationTrims: both libraries trim alike, for any system and tree whose bulk is at most 1048576 (the tables laid); names shortened by a program (PurSI PurFR PurAD PurQU PurLS PurSJ PurYA PurYB PurYC PurYD PurYE)
-/
import Derived.Test.YtaleoeblooeglaaGreatDoorT01
import Derived.WalkSmall
import Derived.RangeFuncSeq
import Derived.OrdersIn
import Derived.RangeFuncRecord
import Derived.RangeFuncCalls
set_option maxRecDepth 10000
set_option linter.unusedSimpArgs false
set_option linter.unusedVariables false
namespace Go.Proofs.YtaleoeblooeglaaGreatDoor
namespace Pur
open Go.RowKit
section
def eQ (C:Ctx) (f:FuncId) (as:List AV) (μ:AM) (c:List PanicEntry) (Post:AM→Prop):Prop :=
 ep C.P f=true∧∀(w0:World) (S:Nat→Prop) (γ:Gh) (w:World) (vs:List Value),Wd C w0 S γ μ w→PW (VR w S γ) as vs →
  Calls C.P f vs.toArray w fun e w'=>∃S' γ' μ',e= .panicked c∧Ext w S γ w' S' γ'∧Wd C w0 S' γ' μ' w'∧Post μ'
def jz (f:AF):K→Option (FuncId×List AV)
 | .call g as=>some (g,as.map (ev f))
 | .callv x as=>match ev f x with
  | .fn g caps=>some (g,as.map (ev f)++caps)
  | .bm g first=>some (g,first++as.map (ev f))
  | .pv (.val (.func (.func g) a b))=>match a.toList,b.toList with
   |[],[]=>some (g,as.map (ev f))
   |_,_=>none
  |_=>none
 |_=>none
def Gy (c:List PanicEntry) (Post:AM→Prop) (m:Nat):Exit→AF→AM→Prop:=fun e _ μ=>match e with
 | .panic c'=>c'=c∧∃μ1 junk,μ=μ1++junk∧m≤μ1.length∧aP μ1 μ1.length=true∧Post μ1
 |_=>False
def iF (C:Ctx) (R:Exit→AF→AM→Prop) (r:Option cZ):Option (VC×List Prop×AF×AM)→Prop
 |some (vc,pr,f,μ)=>aG vc∧aM pr∧match r with
  |some o=>match o.guard,jz f o.k with
   |none,some (g,as)=>∃c Post,eQ C g as μ c Post∧∀μ1,Post μ1→R (.panic c) f μ1
   |none,none=>match o.k with
    | .pan x=>match ev f x with
     | .pv (.val (.iface t v))=>R (.panic [{v:=.iface t v,recovered:=false}]) f μ
     |_=>False
    |_=>False
   |_,_=>False
  |none=>False
 |none=>False
section
variable {C:Ctx} {w0 w:World} {S:Nat→Prop} {γ:Gh} {μ:AM} {f:AF} {a:Act} {o:Oper} {ops:Array Oper}
theorem r8 {c:Call} {g:FuncId} {first args caps:Array Value} {K':Act→World→Prop} {Q:Exit→Act→World→Prop} {ch:List PanicEntry} {R:World→Prop} {us:List Value} (ho:o.op= .call c) (hc:ep C.P g=true)
  (hv:∃x,c.callee= .value x∧a.eval x= .func (.func g) first caps) (ha:c.args.map a.eval=args) (hus:us.toArray=first++args++caps) (h:Calls C.P g us.toArray w fun e w'=>e= .panicked ch∧R w') (hQ:∀w',R w'→Q (.panic ch) a w'):o.wp C.P a w K' Q:=by
 obtain⟨x,h1,h2⟩:=hv;obtain⟨callee,args0,ts⟩:=c;simp only at h1 ha;subst h1;have hr:(execOp a.eval o).run C.P w= .ok (.enter g (first++args++caps)) w:=by
  simp[execOp,ho,resolve,h2,Deferred.ofValue,invoke,hZ hc,ha]
 unfold Oper.wp;rw[hr,Oper.upon_enter,←hus];refine h.mono fun e w' h=>?_
 obtain⟨rfl,hR⟩:=h;exact hQ w' hR
theorem A4 {P:Program} {own:Bool} {k:K} {g:FuncId} {as:List AV} {c:List PanicEntry} {Post:AM→Prop} {K':Act→World→Prop} {Q:Exit→Act→World→Prop} (hP:P=C.P) (hW:Wd C w0 S γ μ w) (hk:fY P own o.op=some k)
  (hf:∀t,VR w S γ (get f t) (a.eval (.tmp t))) (ht:jz f k=some (g,as)) (hp:eQ C g as μ c Post)
  (hQ:∀w' S' γ' μ',Ext w S γ w' S' γ'→Wd C w0 S' γ' μ' w'→Post μ'→Q (.panic c) a w'):o.wp C.P a w K' Q:=by
 have fin:∀{us:List Value},PW (VR w S γ) as us→Calls C.P g us.toArray w fun e w'=>e= .panicked c∧∃S' γ' μ',Ext w S γ w' S' γ'∧Wd C w0 S' γ' μ' w'∧Post μ':=fun {us} hv =>
  (hp.2 w0 S γ w us hW hv).mono fun e w' hh=>by
   obtain⟨S',γ',μ',h1,h2,h3,h4⟩:=hh;exact⟨h1,S',γ',μ',h2,h3,h4⟩
 have hQ':∀w',(∃S' γ' μ',Ext w S γ w' S' γ'∧Wd C w0 S' γ' μ' w'∧Post μ')→Q (.panic c) a w':=fun w' ⟨S',γ',μ',h2,h3,h4⟩=>hQ w' S' γ' μ' h2 h3 h4
 cases k with
 |call g' as' =>
  injection ht with ht
  injection ht with e1 e2
  subst e1 e2;obtain⟨c,hop,hcc⟩:=eL hk rfl;rcases eM hcc rfl with⟨g',as',hc1,hc2,he'⟩|⟨t,as',hc1,hc2,he'⟩
  ·injection he' with e1 e2
   subst e1 e2;have hv:=gD (w:=w) (S:=S) (γ:=γ) (f:=f) (a:=a) hc2 fun t _=>hf t
   refine r8 (first:=#[]) (args:=c.args.map a.eval) (caps:=#[]) hop hp.1 ⟨_,hc1,rfl⟩ rfl ?_ (fin hv) hQ';simp[←Array.toList_map]
  ·cases he'
 |callv x as' =>
  obtain⟨c,hop,hcc⟩:=eL hk rfl;rcases eM hcc rfl with⟨g',as',hc1,hc2,he'⟩|⟨t,as',hc1,hc2,he'⟩
  ·cases he'
  ·injection he' with e1 e2
   subst e1 e2;have hv:=gD (w:=w) (S:=S) (γ:=γ) (f:=f) (a:=a) hc2 fun t _=>hf t
   have hx:=hf t;simp only[jz]at ht;split at ht
   ·rename_i g0 caps hg;injection ht with ht
    injection ht with e1 e2
    subst e1 e2;simp only[ev]at hg;rw[hg]at hx;generalize hxe:a.eval (.tmp t)=xv at hx;cases hx with
    |fn _ _ cs hl hat =>
     refine r8 (first:=#[]) (args:=c.args.map a.eval) (caps:=cs.toArray) hop hp.1 ⟨_,hc1,hxe⟩ rfl ?_ (fin (hv.append ⟨hl,hat⟩)) hQ';simp[←Array.toList_map]
   ·rename_i g0 first hg
    injection ht with ht
    injection ht with e1 e2
    subst e1 e2;simp only[ev]at hg;rw[hg]at hx;generalize hxe:a.eval (.tmp t)=xv at hx;cases hx with
    |bm _ _ cs hl hat =>
     refine r8 (first:=cs.toArray) (args:=c.args.map a.eval) (caps:=#[]) hop hp.1 ⟨_,hc1,hxe⟩ rfl ?_ (fin (PW.append ⟨hl,hat⟩ hv)) hQ';simp[←Array.toList_map]
   ·rename_i g0 x y hg;split at ht
    ·rename_i hxa hya;injection ht with ht
     injection ht with e1 e2
     subst e1 e2;simp only[ev]at hg;rw[hg]at hx;generalize hxe:a.eval (.tmp t)=xv at hx;obtain rfl:=fI hx;obtain rfl:x=#[]:=by cases x;simp only at hxa;subst hxa;rfl
     obtain rfl:y=#[]:=by cases y;simp only at hya;subst hya;rfl
     refine r8 (first:=#[]) (args:=c.args.map a.eval) (caps:=#[]) hop hp.1 ⟨_,hc1,hxe⟩ rfl ?_ (fin hv) hQ';simp[←Array.toList_map]
    ·cases ht
   ·cases ht
 |_=>cases ht
theorem wL {n m id k:Nat} {own:Nat→Bool} {al:List cZ} {cm:Bool} {hs:List (Nat×Hint)} {vc:VC} {pr:List Prop} {f':AF} {μ':AM} {R:Exit→AF→AM→Prop} {op:cZ} (hc:dZ C.P own n ops ops.toList=some al)
  (hk:al[k]?=some op) (hg:op.guard=none) (he:bV (aj C) (aN C) cm false (al.take k) hs 0 [] [] f μ=some (vc,pr,f',μ')) (hvc:aG vc) (hpr:aM pr)
  (hstop:∀(o:Oper) (w0:World) (S:Nat→Prop) (γ:Gh) (w:World) (S1:Nat→Prop) (γ1:Gh) (w1:World) (a1:Act) (K':Act→World→Prop),eo C.P own n ops o=some op→Ext w S γ w1 S1 γ1→Wd C w0 S1 γ1 μ' w1→FR C.D n w1 S1 γ1 f' a1→o.wp C.P a1 w1 K' (Ends C n m w0 w S γ R)):AW C n m (.region id ops false) R f μ:=by
 intro w0 S γ w a hW hF;refine wp_region ?_;obtain⟨-,F,M,V,h1,h2,h3,h4,h5⟩:=b6 (al.take k) 0 [] [] f μ vc pr f' μ' he hvc hpr;obtain⟨hl,hat⟩:=dA hc;replace hl:al.length=ops.size:=hl.trans (Array.length_toList);have hkl:k<al.length:=(List.getElem?_eq_some_iff.mp hk).1;have hlt:(al.take k).length=k:=by rw[List.length_take];omega
 rw[Nat.zero_add,hlt]at h3 h4;have key:∀(l j:Nat),j+l=k→∀(S1:Nat→Prop) (γ1:Gh) (w1:World) (a1:Act),Ext w S γ w1 S1 γ1→Wd C w0 S1 γ1 (M j) w1→FR C.D n w1 S1 γ1 (F j) a1→wpOps C.P ops (Ends C n m w0 w S γ R) (List.range' j (ops.size-j)) a1 w1:=by
  intro l;induction l with
  |zero =>
   intro j hj S1 γ1 w1 a1 hE hW1 hF1;obtain rfl:j=k:=by omega
   rw[show ops.size-j=(ops.size-j-1)+1 by omega,List.range'_succ,wpOps_cons];have ho:ops[j]?=some ops[j]:=by simp[←hl,hkl]
   obtain⟨ao,hao,hco⟩:=hat j ops[j] (by rw[Array.getElem?_toList];exact ho);rw[hk]at hao;injection hao with hao
   subst hao;obtain⟨ow,hkk,hdst,-,-⟩:=bG hco;have hgo:(ops[j]).guard=none:=by
    cases hgu:(ops[j]).guard with
    |none=>rfl
    |some gb =>
     obtain⟨g0,b0⟩:=gb;obtain⟨t0,-,h0⟩:=ig hco hgu;rw[hg]at h0;cases h0
   refine dE ho ?_;unfold kj;rw[if_pos (by unfold Region.wanted;rw[hgo])];rw[h4]at hW1;rw[h3]at hF1;exact hstop _ w0 S γ w S1 γ1 w1 a1 _ hco hE hW1 hF1
  |succ l ih =>
   intro j hj S1 γ1 w1 a1 hE hW1 hF1;have hjs:j<ops.size:=by omega
   rw[show ops.size-j=(ops.size-(j+1))+1 by omega,List.range'_succ,wpOps_cons];have ho:ops[j]?=some ops[j]:=by simp[hjs]
   obtain⟨ao,hao,hco⟩:=hat j ops[j] (by rw[Array.getElem?_toList];exact ho);obtain⟨vcj,prj,k1,k2,k3,k4⟩:=h5 j ao (by rw[List.getElem?_take,if_pos (by omega)];exact hao);rw[Nat.zero_add]at k1 k4;obtain⟨-,-,hdst,hlt,-⟩:=bG hco;refine dE ho (bK hW1 hco k1 k2 k3 (fun t _=>hF1.val t) fun u w2 S2 γ2 hE2 hW2 hv=>?_);refine ih (j+1) (by omega) S2 γ2 w2 _ (hE.trans hE2) hW2 ?_;rw[k4,hdst];exact(hF1.ext hE2).put hv hlt
 rw[List.range_eq_range'];exact key k 0 (by omega) S γ w a (Ext.refl _ _ _) (by rw[h2];exact hW) (by rw[h1];exact hF)
theorem Ey {n m id k:Nat} {own:Nat→Bool} {al:List cZ} {cm:Bool} {hs:List (Nat×Hint)} {vc:VC} {pr:List Prop} {f':AF} {μ':AM} {R:Exit→AF→AM→Prop} {op:cZ} {g:FuncId} {as:List AV} {ch:List PanicEntry} {Post:AM→Prop} (hc:dZ C.P own n ops ops.toList=some al)
  (hk:al[k]?=some op) (hg:op.guard=none) (he:bV (aj C) (aN C) cm false (al.take k) hs 0 [] [] f μ=some (vc,pr,f',μ')) (hvc:aG vc) (hpr:aM pr) (ht:jz f' op.k=some (g,as)) (hp:eQ C g as μ' ch Post)
  (hR:∀μ1,Post μ1→R (.panic ch) f' μ1):AW C n m (.region id ops false) R f μ :=
 wL hc hk hg he hvc hpr fun o w0 S γ w S1 γ1 w1 a1 K' hco hE hW1 hF1=>by
  obtain⟨ow,hkk,hdst,-,-⟩:=bG hco;exact A4 rfl hW1 hkk hF1.val ht hp fun w' S' γ' μ1 hE2 hW2 hP=>⟨S',γ',f',μ1,(hE.trans hE2).toM m,hW2,hF1.ext hE2,hR μ1 hP⟩
def CA:K→Bool
 | .pan _=>true
 |_=>false
theorem yF {P:Program} {op:BinOp} {t:TypeId} {x y:Operand} {k:K} (hk:fH P op t x y=some k) (h:CA k=true):False:=by
 unfold fH at hk;repeat' split at hk
 all_goals first
  |(cases hk;done)
  |(injection hk with hk;subst hk;cases h;done)
  |(
   obtain⟨_,hk⟩:=bD hk;repeat' split at hk
   all_goals first
    |(cases hk;done)
    |(injection hk with hk;subst hk;cases h;done))
theorem qz {P:Program} {c:Call} {k:K} (hk:cI P c=some k) (h:CA k=true):False:=by
 unfold cI at hk;split at hk
 ·obtain⟨_,_,h2⟩:=map_some hk;subst h2;cases h
 ·obtain⟨_,_,h2⟩:=map_some hk;subst h2;cases h
 ·cases hk
 ·cases hk
 ·unfold dO at hk;repeat' split at hk
  all_goals first
   |(cases hk;done)
   |(injection hk with hk;subst hk;cases h;done)
   |(obtain⟨_,hk⟩:=aQ hk;injection hk with hk;subst hk;cases h;done)
theorem wM {P:Program} {own:Bool} {op:Op} {k:K} (hk:fY P own op=some k) (h:CA k=true):∃y x,op= .panic y∧aK y=some x∧k= .pan x:=by
 cases op<;>simp only[fY]at hk;case panic y =>
  obtain⟨z,h1,h2⟩:=map_some hk;exact⟨y,z,rfl,h1,h2.symm⟩
 case call c =>
  exfalso;split at hk
  ·rcases jx hk with hk|⟨g,as,-,-,rfl⟩
   ·exact qz hk h
   ·cases h
  ·exact qz hk h
 all_goals exfalso
 all_goals repeat' split at hk
 all_goals first
  |(cases hk;done)
  |(exact yF hk h)
  |contradiction
  |(injection hk with hk;subst hk;cases h;done)
  |(obtain⟨_,_,h2⟩:=map_some hk;subst h2;cases h;done)
  |(obtain⟨_,hk⟩:=aQ hk;injection hk with hk;subst hk;cases h;done)
  |(obtain⟨_,hk⟩:=aQ hk;obtain⟨_,_,h2⟩:=map_some hk;subst h2;cases h;done)
  |(obtain⟨_,hk2⟩:=aQ hk;cases hk2;done)
  |(rcases mM hk with⟨_,h2⟩|⟨_,h2⟩<;>(subst h2;cases h))
theorem A5 {P:Program} {own:Bool} {op:Op} {x:bY} (h:fY P own op=some (.pan x)):∃y,op= .panic y∧aK y=some x:=by
 obtain⟨y,x',h1,h2,h3⟩:=wM h rfl;injection h3 with h3
 subst h3;exact⟨y,h1,h2⟩
theorem Ez {n m id k:Nat} {own:Nat→Bool} {al:List cZ} {cm:Bool} {hs:List (Nat×Hint)} {vc:VC} {pr:List Prop} {f':AF} {μ':AM} {R:Exit→AF→AM→Prop} {op:cZ} {x:bY} {v:Value} (hc:dZ C.P own n ops ops.toList=some al)
  (hk:al[k]?=some op) (hg:op.guard=none) (he:bV (aj C) (aN C) cm false (al.take k) hs 0 [] [] f μ=some (vc,pr,f',μ')) (hvc:aG vc) (hpr:aM pr) (ht:op.k= .pan x) {t:TypeId} (hx:ev f' x= .pv (.val (.iface t v)))
  (hR:R (.panic [{v:=.iface t v,recovered:=false}]) f' μ'):AW C n m (.region id ops false) R f μ :=
 wL hc hk hg he hvc hpr fun o w0 S γ w S1 γ1 w1 a1 K' hco hE hW1 hF1=>by
  obtain⟨ow,hkk,hdst,-,-⟩:=bG hco;rw[ht]at hkk;obtain⟨y,hop,hy⟩:=A5 hkk;have hv:=aY (w:=w1) (S:=S1) (γ:=γ1) (f:=f') (a:=a1) hy fun t _=>hF1.val t
  rw[hx]at hv;have hv:=fI hv;unfold Oper.wp;simp only[execOp,hop,hv,Sem.run_bind,run_panic_iface,Result.andThen_halt,Oper.upon_panic];exact⟨S1,γ1,f',μ',hE.toM m,hW1,hF1,hR⟩
variable {own:Nat→Bool} {n m:Nat} {R:Exit→AF→AM→Prop}
theorem fT (k:Nat) (cm:Bool) {al:List cZ} (hs:List (Nat×Hint)) (h:iF C R al[k]? (bV (aj C) (aN C) cm false (al.take k) hs 0 [] [] f μ)):Aw C own n m (.region false al) R f μ:=by
 intro c hc;obtain⟨id,ops,rfl,g1,-⟩:=gT hc;unfold iF at h;split at h
 ·rename_i vc pr f' μ' he;obtain⟨h1,h2,h3⟩:=h;split at h3
  ·rename_i o ho;split at h3
   ·rename_i g as hg ht;obtain⟨c,Post,h4,h5⟩:=h3;exact Ey g1 ho hg he h1 h2 ht h4 h5
   ·rename_i hg ht;split at h3
    ·rename_i x hk;split at h3
     ·rename_i t v hx;exact Ez g1 ho hg he h1 h2 hk hx h3
     ·exact h3.elim
    ·exact h3.elim
   ·exact h3.elim
  ·exact h3.elim
 ·exact h.elim
theorem nc {fid:FuncId} {k:Nat} {rs:List jZ} {x:ay} {as:List AV} {c:List PanicEntry} {Post:AM→Prop} {μ0:AM} (h:Fn C fid own n k rs x) (hk:as.length=k)
  (hb:Aw C own n μ0.length x (Gy c Post μ0.length) (jK 0 as) μ0):eQ C fid as μ0 c Post:=by
 obtain⟨fn,c0,h1,h2,h3,h4,h5,h6,h7⟩:=h.ex;refine⟨h7,fun w0 S γ w us hW hp=>?_⟩;have hus:us.length≤fn.ntmps:=by rw[←hp.len];omega
 refine calls_of_wp h1 h2 (wp_mono (hb c0 h3 w0 S γ w _ hW (by rw[←h5,h.dz];exact lq hp hus)) fun e a' w' hh=>?_);obtain⟨S',γ',f',μ',g1,g2,g3,g4⟩:=hh;cases e with
 |panic c' =>
  obtain⟨rfl,μ1,junk,rfl,hl,hm,hP⟩:=g4;have hγ:∀b,b<μ1.length→b7 γ' μ1.length b=γ' b:=fun b h=>by simp[b7,h]
  refine⟨g3.defers.trans h.dz,S',b7 γ' μ1.length,μ1,rfl,⟨g1.stay,fun b e hb=>?_,g1.more,fun b e' hb=>?_,g1.size,g1.frame⟩,g2.drop hm,hP⟩
  ·have hbl:b<μ0.length:=by
    apply Classical.byContradiction;intro hn;rw[hW.mem.none b (by omega)]at hb;cases hb
   obtain⟨e',k1,k2,k3⟩:=g1.gh b e hbl hb;exact⟨e',(hγ b (by omega)).trans k1,k2,k3⟩
  ·unfold b7 at hb;split at hb
   ·exact g1.cbs b e' hb
   ·cases hb
 |_=>exact g4.elim
end
end
section
def o9 (aD:List Nat) (n i:Nat):Nat:=match aD[i]? with
 |some b=>b
 |none=>n+(i-aD.length)
def pS (aD:List Nat) (n:Nat):Nat→AV→AV
 |_,.pv p=>.pv p
 |_,.iptr l o=>.iptr l o
 |_,.ref b g o k=>.ref (o9 aD n b) g o k
 |_,.ptr b g o=>.ptr (o9 aD n b) g o
 |_,.map b g=>.map (o9 aD n b) g
 |d+1,.bm f l=>.bm f (l.map (pS aD n d))
 |d+1,.agg l=>.agg (l.map (pS aD n d))
 |d+1,.tup l=>.tup (l.map (pS aD n d))
 |d+1,.fn f l=>.fn f (l.map (pS aD n d))
 |d+1,.ifb c v=>.ifb c (pS aD n d v)
 |_,_=>.any
def r9 (aD:List Nat) (n:Nat) (k:dT):dT:={k with cells:=k.cells.map (pS aD n 3)}
def xY (aD:List Nat) (n:Nat):List Nat→AM→AM→AM
 |b::bs,k::ks,μ=>xY aD n bs ks (μ.set b (r9 aD n k))
 |_,ks,μ=>μ++ks.map (r9 aD n)
def wN (aD:List Nat) (n:Nat) (μ:AM) (i:Nat):List Nat→AM→Prop
 |b::bs,k::ks=>μ[b]?=some (r9 aD n k)∧wN aD n μ (i+1) bs ks
 |[],[]=>True
 |_,_=>False
section
variable {C:Ctx} {w0 w:World} {S:Nat→Prop} {γ γ':Gh} {aD:List Nat} {n:Nat}
theorem yG:∀(d:Nat) {v:AV} {u:Value},(∀i e,γ i=some e→γ' (o9 aD n i)=some e)→VR w S γ v u→VR w S γ' (pS aD n d v) u:=by
 intro d;induction d with
 |zero =>
  intro v u hg h;cases h with
  |pv p _ hp=>exact .pv p _ hp
  |ref b g off k _ e a c h1 h2 h3 h4=>exact .ref _ g off k _ e a c (hg b e h1) h2 h3 h4
  |ptr b g off _ e a h1 h2 h3 h4=>exact .ptr _ g off _ e a (hg b e h1) h2 h3 h4
  |iptr l off g o c hS hc hi=>exact .iptr l off g o c hS hc hi
  |map b g _ e r h1 h2 h3 h4=>exact .map _ g _ e r (hg b e h1) h2 h3 h4
  |_=>exact .any _
 |succ d ih =>
  intro v u hg h;cases h with
  |pv p _ hp=>exact .pv p _ hp
  |ref b g off k _ e a c h1 h2 h3 h4=>exact .ref _ g off k _ e a c (hg b e h1) h2 h3 h4
  |ptr b g off _ e a h1 h2 h3 h4=>exact .ptr _ g off _ e a (hg b e h1) h2 h3 h4
  |iptr l off g o c hS hc hi=>exact .iptr l off g o c hS hc hi
  |map b g _ e r h1 h2 h3 h4=>exact .map _ g _ e r (hg b e h1) h2 h3 h4
  |agg l cs hl hat =>
   refine .agg _ cs (by simpa using hl) fun i p q hp hq=>?_
   rw[List.getElem?_map]at hp;obtain⟨p0,h1,rfl⟩:=Option.map_eq_some_iff.mp hp;exact ih hg (hat i p0 q h1 hq)
  |tup l cs hl hat =>
   refine .tup _ cs (by simpa using hl) fun i p q hp hq=>?_
   rw[List.getElem?_map]at hp;obtain⟨p0,h1,rfl⟩:=Option.map_eq_some_iff.mp hp;exact ih hg (hat i p0 q h1 hq)
  |fn f l cs hl hat =>
   refine .fn f _ cs (by simpa using hl) fun i p q hp hq=>?_
   rw[List.getElem?_map]at hp;obtain⟨p0,h1,rfl⟩:=Option.map_eq_some_iff.mp hp;exact ih hg (hat i p0 q h1 hq)
  |bm f l cs hl hat =>
   refine .bm f _ cs (by simpa using hl) fun i p q hp hq=>?_
   rw[List.getElem?_map]at hp;obtain⟨p0,h1,rfl⟩:=Option.map_eq_some_iff.mp hp;exact ih hg (hat i p0 q h1 hq)
  |ifb c a _ h1 h2=>exact .ifb c _ _ (fun hc=>ih hg (h1 hc)) h2
  |any _=>exact .any _
theorem sa {m:Nat}:∀(d:Nat) {v:AV} {u:Value},ck d m v=true→(∀i e,i<m→γ (o9 aD n i)=some e→γ' i=some e)→VR w S γ (pS aD n d v) u→VR w S γ' v u:=by
 intro d;induction d with
 |zero =>
  intro v u hb hg h;cases v<;>simp only[ck]at hb<;>simp only[pS]at h;case pv p=>cases h with|pv _ _ hp=>exact .pv _ _ hp
  case ref b g off k=>cases h with|ref _ _ _ _ _ e a c h1 h2 h3 h4=>exact .ref _ g off k _ e a c (hg b e (Nat.blt_eq.mp hb) h1) h2 h3 h4
  case ptr b g off=>cases h with|ptr _ _ _ _ e a h1 h2 h3 h4=>exact .ptr _ g off _ e a (hg b e (Nat.blt_eq.mp hb) h1) h2 h3 h4
  case iptr l off=>cases h with|iptr _ _ g o c hS hc hi=>exact .iptr l off g o c hS hc hi
  case map b g=>cases h with|map _ _ _ e r h1 h2 h3 h4=>exact .map _ g _ e r (hg b e (Nat.blt_eq.mp hb) h1) h2 h3 h4
  all_goals first
   |exact .any _
   |cases hb
 |succ d ih =>
  intro v u hb hg h;have lst:∀{l:List AV} {cs:List Value},l.all (ck d m)=true→(l.map (pS aD n d)).length=cs.length→(∀(i:Nat) p q,(l.map (pS aD n d))[i]?=some p→cs[i]?=some q→VR w S γ p q) →
    l.length=cs.length∧∀(i:Nat) p q,l[i]?=some p→cs[i]?=some q→VR w S γ' p q:=fun {l cs} ha hl hat =>
   ⟨by simpa using hl,fun i p q hp hq=>ih (List.all_eq_true.mp ha p (List.mem_of_getElem? hp)) hg (hat i _ q (by rw[List.getElem?_map,hp];rfl) hq)⟩
  cases v<;>simp only[ck]at hb<;>simp only[pS]at h;case pv p=>cases h with|pv _ _ hp=>exact .pv _ _ hp
  case ref b g off k=>cases h with|ref _ _ _ _ _ e a c h1 h2 h3 h4=>exact .ref _ g off k _ e a c (hg b e (Nat.blt_eq.mp hb) h1) h2 h3 h4
  case ptr b g off=>cases h with|ptr _ _ _ _ e a h1 h2 h3 h4=>exact .ptr _ g off _ e a (hg b e (Nat.blt_eq.mp hb) h1) h2 h3 h4
  case iptr l off=>cases h with|iptr _ _ g o c hS hc hi=>exact .iptr l off g o c hS hc hi
  case map b g=>cases h with|map _ _ _ e r h1 h2 h3 h4=>exact .map _ g _ e r (hg b e (Nat.blt_eq.mp hb) h1) h2 h3 h4
  case agg l=>cases h with|agg _ cs hl hat=>obtain⟨q1,q2⟩:=lst hb hl hat;exact .agg _ _ q1 q2
  case tup l=>cases h with|tup _ cs hl hat=>obtain⟨q1,q2⟩:=lst hb hl hat;exact .tup _ _ q1 q2
  case fn f l=>cases h with|fn _ _ cs hl hat=>obtain⟨q1,q2⟩:=lst hb hl hat;exact .fn _ _ _ q1 q2
  case bm f l=>cases h with|bm _ _ cs hl hat=>obtain⟨q1,q2⟩:=lst hb hl hat;exact .bm _ _ _ q1 q2
  case ifb c a=>cases h with|ifb _ _ _ h1 h2=>exact .ifb _ _ _ (fun hc=>ih hb hg (h1 hc)) h2
  case any=>exact .any _
def wO (aD:List Nat) (n:Nat) (γ γs:Gh):Gh:=fun b=>match aD.findIdx? (fun c=>Nat.beq c b) with
 |some i=>γs i
 |none=>if b<n then γ b else γs (aD.length+(b-n))
theorem A6 (hnd:aD.Nodup) {i b:Nat} (h:aD[i]?=some b):aD.findIdx? (fun c=>Nat.beq c b)=some i:=by
 rw[List.findIdx?_eq_some_iff_getElem];obtain⟨hi,hb⟩:=List.getElem?_eq_some_iff.mp h;refine⟨hi,by rw[hb];exact Nat.beq_refl b,fun j hj=>?_⟩;intro hjb;have hjb:=Nat.eq_of_beq_eq_true hjb;have:=(List.getElem_inj (i:=j) (j:=i) (h₀:=by omega) (h₁:=hi) hnd).mp (hjb.trans hb.symm);omega
theorem pT {b:Nat} (h:b ∉ aD):aD.findIdx? (fun c=>Nat.beq c b)=none:=by
 rw[List.findIdx?_eq_none_iff];intro c hc;cases hb:Nat.beq c b with
 |false=>rfl
 |true=>rw[Nat.eq_of_beq_eq_true hb]at hc;exact absurd hc h
theorem A7 {i b:Nat} (h:aD.findIdx? (fun c=>Nat.beq c b)=some i):aD[i]?=some b:=by
 rw[List.findIdx?_eq_some_iff_getElem]at h;obtain⟨hi,hb,-⟩:=h;rw[List.getElem?_eq_getElem hi,Nat.eq_of_beq_eq_true hb]
theorem Gz (hnd:aD.Nodup) (hlt:∀b∈aD,b<n) {γs:Gh} (i:Nat):wO aD n γ γs (o9 aD n i)=γs i:=by
 unfold o9;cases hi:aD[i]? with
 |some b =>
  simp only[wO,A6 hnd hi]
 |none =>
  have hle:aD.length≤i:=by
   apply Classical.byContradiction;intro hn;rw[List.getElem?_eq_getElem (by omega)]at hi;cases hi
  have hnk:n+(i-aD.length) ∉ aD:=fun h=>by have:=hlt _ h;omega
  simp only[wO,pT hnk];rw[if_neg (by omega)];congr 1;omega
theorem zW:∀(bs:List Nat) (ks μ:AM),bs.length≤ks.length→(xY aD n bs ks μ).length=μ.length+(ks.length-bs.length)
 |[],ks,μ,_=>by simp[xY]
 |b::bs,[],μ,h=>by simp at h
 |b::bs,k::ks,μ,h=>by
  rw[xY,zW bs ks _ (by simpa using h)];simp
theorem yH:∀(bs:List Nat) (ks μ:AM),bs.length≤ks.length→bs.Nodup→(∀b∈bs,b<μ.length)→∀b k',(xY aD n bs ks μ)[b]?=some k' →
  (∃(i:Nat) (k:dT),bs[i]?=some b∧ks[i]?=some k∧k'=r9 aD n k)∨(b<μ.length∧b ∉ bs∧μ[b]?=some k')∨(μ.length≤b∧∃k:dT,ks[bs.length+(b-μ.length)]?=some k∧k'=r9 aD n k)
 |[],ks,μ,_,_,_,b,k',h=>by
  simp only[xY]at h;by_cases hb:b<μ.length
  ·rw[List.getElem?_append_left hb]at h;exact .inr (.inl ⟨hb,by simp,h⟩)
  ·rw[List.getElem?_append_right (by omega),List.getElem?_map]at h;obtain⟨k,h1,h2⟩:=Option.map_eq_some_iff.mp h;exact .inr (.inr ⟨by omega,k,by simpa using h1,h2.symm⟩)
 |c::bs,[],μ,h0,_,_,b,k',h=>by simp at h0
 |c::bs,k::ks,μ,h0,hnd,hlt,b,k',h=>by
  rw[List.nodup_cons]at hnd;have hc:=hlt c List.mem_cons_self;rcases yH bs ks _ (by simpa using h0) hnd.2 (fun b hb=>by rw[List.length_set];exact hlt b (List.mem_cons_of_mem _ hb)) b k' h with⟨i,k1,h1,h2,h3⟩|⟨h1,h2,h3⟩|⟨h1,k1,h2,h3⟩
  ·exact .inl ⟨i+1,k1,h1,h2,h3⟩
  ·rw[List.length_set]at h1;by_cases hcb:c=b
   ·subst hcb;rw[List.getElem?_set_self hc]at h3;injection h3 with h3
    exact .inl ⟨0,k,rfl,rfl,h3.symm⟩
   ·rw[List.getElem?_set_ne hcb]at h3;exact .inr (.inl ⟨h1,by simp only[List.mem_cons,not_or];exact⟨Ne.symm hcb,h2⟩,h3⟩)
  ·rw[List.length_set]at h1 h2;exact .inr (.inr ⟨h1,k1,by rw[←h2];simp only[List.length_cons];rw[show bs.length+1+(b-μ.length)=bs.length+(b-μ.length)+1 by omega];rfl,h3⟩)
theorem wP {μ:AM}:∀(bs:List Nat) (ks:AM) (j:Nat),wN aD n μ j bs ks→bs.length=ks.length∧∀(i:Nat) b k,bs[i]?=some b→ks[i]?=some k→μ[b]?=some (r9 aD n k)
 |[],[],_,_=>⟨rfl,fun i b k h=>by simp at h⟩
 |[],_::_,_,h=>h.elim
 |_::_,[],_,h=>h.elim
 |b::bs,k::ks,j,h=>by
  obtain⟨h1,h2⟩:=wP bs ks (j+1) h.2;refine⟨by simp[h1],fun i b' k' hb hk=>?_⟩;cases i with
  |zero=>injection hb with hb;injection hk with hk;subst hb hk;exact h.1
  |succ i=>exact h2 i b' k' hb hk
theorem vf {γs:Gh} {b:Nat} {e:tq} (h:wO aD n γ γs b=some e):(∃i,o9 aD n i=b∧γs i=some e)∨(b<n∧b ∉ aD∧γ b=some e):=by
 unfold wO at h;split at h
 ·rename_i i hi;refine .inl ⟨i,?_,h⟩;unfold o9;rw[A7 hi]
 ·rename_i hf;rw[List.findIdx?_eq_none_iff]at hf;have hnk:b ∉ aD:=fun hb=>by have:=hf b hb;rw[Nat.beq_refl]at this;cases this
  split at h
  ·exact .inr ⟨by assumption,hnk,h⟩
  ·refine .inl ⟨_,?_,h⟩;unfold o9;rw[List.getElem?_eq_none (by omega)];simp only;omega
theorem vg {γs:Gh} {b:Nat} (h1:b ∉ aD) (h2:b<n):wO aD n γ γs b=γ b:=by
 unfold wO;rw[pT h1];simp only;rw[if_pos h2]
def B8 (aD:List Nat) (γ:Gh):Gh:=fun i=>(aD[i]?).bind γ
theorem lu {i:Nat} {e:tq} (h:B8 aD γ i=some e):∃b,aD[i]?=some b∧γ b=some e:=by
 obtain⟨b,h1,h2⟩:=Option.bind_eq_some_iff.mp h;exact⟨b,h1,h2⟩
variable {μ μs:AM}
theorem FT (hW:Wd C w0 S γ μ w) (hnd:aD.Nodup) (hh:wN aD μ.length μ 0 aD μs) (hok:aP μs μs.length=true):(∀i e,i<μs.length→γ (o9 aD μ.length i)=some e→B8 aD γ i=some e)∧Wd C w0 S (B8 aD γ) μs w:=by
 obtain⟨hkl,hat⟩:=wP aD μs 0 hh;have hem:∀i e,i<μs.length→γ (o9 aD μ.length i)=some e→B8 aD γ i=some e:=fun i e hi he=>by
  unfold B8;have hk:aD[i]?=some aD[i]:=List.getElem?_eq_getElem (by omega);unfold o9 at he;rw[hk]at he ⊢;exact he
 have hki:∀{i:Nat} {k:dT},μs[i]?=some k→∃b,aD[i]?=some b∧μ[b]?=some (r9 aD μ.length k)∧B8 aD γ i=γ b:=fun {i k} hk=>by
  have hi:=(List.getElem?_eq_some_iff.mp hk).1;have hb:aD[i]?=some aD[i]:=List.getElem?_eq_getElem (by omega);exact⟨_,hb,hat i _ k hb hk,by unfold B8;rw[hb];rfl⟩
 have hcell:∀{i:Nat} {k:dT},μs[i]?=some k→∀a∈k.cells,ck 3 μs.length a=true:=fun {i k} hk a ha=>by
  have:=List.all_eq_true.mp hok k (List.mem_of_getElem? hk);exact List.all_eq_true.mp this a ha
 refine⟨hem,⟨⟨fun i k hk hz=>?_,fun i k hk hz=>?_,fun i hi=>?_,fun i j e e' h1 h2 h3=>?_⟩,hW.below,hW.live,hW.env⟩⟩
 ·obtain⟨b,h1,h2,h3⟩:=hki hk;obtain⟨e,cs,q1,q2,q3,q4,q5,q6,q7,q8,q9⟩:=hW.mem.blk b _ h2 hz;refine⟨e,cs,h3.trans q1,q2,q3,q4,q5,by simpa [r9]using q6,fun j a ha=>?_,q8,q9⟩;obtain⟨v,r1,r2,r3⟩:=q7 j (pS aD μ.length 3 a) (by simp only[r9,List.getElem?_map,ha];rfl);exact⟨v,r1,sa 3 (hcell hk a (List.mem_of_getElem? ha)) hem r2,r3⟩
 ·obtain⟨b,h1,h2,h3⟩:=hki hk;obtain⟨e,q1,q2,q3,⟨es,clock,r1,r2,r3⟩,q8,q9⟩:=hW.mem.mp b _ h2 hz;refine⟨e,h3.trans q1,q2,q3,⟨es,clock,r1,⟨by simpa [r9]using r2.len,fun j a v ha hv=>?_⟩,r3⟩,q8,q9⟩;exact sa 3 (hcell hk a (List.mem_of_getElem? ha)) hem (r2.at_ j (pS aD μ.length 3 a) v (by simp only[r9,List.getElem?_map,ha];rfl) hv)
 ·unfold B8;rw[List.getElem?_eq_none (by omega)];rfl
 ·obtain⟨b,g1,g2⟩:=lu h1;obtain⟨b',g3,g4⟩:=lu h2;have:=hW.mem.inj b b' e e' g2 g4 h3;subst this;have hi:=(List.getElem?_eq_some_iff.mp g1).1;exact(List.getElem?_inj hi hnd).mp (g1.trans g3.symm)
theorem zX {as:List AV} {vs:List Value} {γs:Gh} {m:Nat} (has:∀a∈as,ck 3 m a=true) (hem:∀i e,i<m→γ (o9 aD n i)=some e→γs i=some e) (hp:PW (VR w S γ) (as.map (pS aD n 3)) vs):PW (VR w S γs) as vs :=
 ⟨by simpa using hp.len,fun i a v ha hv=>sa 3 (has a (List.mem_of_getElem? ha)) hem (hp.at_ i _ v (by rw[List.getElem?_map,ha];rfl) hv)⟩
theorem zY (hW : Wd C w0 S γ μ w) (hnd : aD.Nodup) (hlt : ∀ b ∈ aD, b < μ.length) {μs' : AM} (hlen : aD.length ≤ μs'.length) {w' : World} {S' : Nat → Prop} {γs' : Gh} (hE : Ext w S (B8 aD γ) w' S' γs') (hW' : Wd C w0 S' γs' μs' w') :
    Ext w S γ w' S' (wO aD μ.length γ γs') ∧ Wd C w0 S' (wO aD μ.length γ γs') (xY aD μ.length aD μs' μ) w' ∧ ∀ i e, γs' i = some e → wO aD μ.length γ γs' (o9 aD μ.length i) = some e := by
  have hup : ∀ i e, γs' i = some e → wO aD μ.length γ γs' (o9 aD μ.length i) = some e := fun i e h => by rw [Gz hnd hlt]; exact h
  have hcbl : ∀ b e, γ b = some e → b < μ.length ∧ e.cb < w.heap.size := fun b e h => by
    have hb : b < μ.length := by
      apply Classical.byContradiction
      intro hn
      rw [hW.mem.none b (by omega)] at h
      cases h
    obtain ⟨e0, q1, -, -, q4, -⟩ := hW.mem.B7 (List.getElem?_eq_getElem hb)
    rw [h] at q1
    injection q1 with q1
    subst q1
    exact ⟨hb, q4⟩
  have hEx : Ext w S γ w' S' (wO aD μ.length γ γs') := by
    refine ⟨hE.stay, fun b e he => ?_, fun g hg => ?_, fun b e' he => ?_, hE.size, fun g hg hn => hE.frame g hg fun i e h => by obtain ⟨b, -, h2⟩ := lu h; exact hn b e h2⟩
    · by_cases hb : b ∈ aD
      · obtain ⟨i, hi⟩ := List.getElem?_of_mem hb
        have h1 : B8 aD γ i = some e := by unfold B8; rw [hi]; exact he
        obtain ⟨e', g1, g2, g3⟩ := hE.gh i e h1
        have h2 : o9 aD μ.length i = b := by unfold o9; rw [hi]
        exact ⟨e', h2 ▸ hup i e' g1, g2, g3⟩
      · exact ⟨e, (vg hb (hcbl b e he).1).trans he, Nat.le_refl _, fun _ => rfl⟩
    · rcases hE.more g hg with h | ⟨i, e, h1, h2⟩ | h
      · exact .inl h
      · obtain ⟨b, -, h3⟩ := lu h1
        exact .inr (.inl ⟨b, e, h3, h2⟩)
      · exact .inr (.inr h)
    · rcases vf he with ⟨i, -, h1⟩ | ⟨-, -, h1⟩
      · rcases hE.cbs i e' h1 with ⟨i0, e, h2, h3⟩ | h2
        · obtain ⟨b0, -, h4⟩ := lu h2
          exact .inl ⟨b0, e, h4, h3⟩
        · exact .inr h2
      · exact .inl ⟨b, e', h1, rfl⟩
  have hside : ∀ b e, b ∉ aD → γ b = some e → (∀ i e2, B8 aD γ i = some e2 → e2.cb ≠ e.cb) := fun b e hb he i e2 h2 hc => by
    obtain ⟨b2, h3, h4⟩ := lu h2
    have := hW.mem.inj b2 b e2 e h4 he hc
    subst this
    exact hb (List.mem_of_getElem? h3)
  have hnS : ∀ b e, b ∉ aD → γ b = some e → ¬ S e.cb → ¬ S' e.cb := fun b e hb he hs hs' => by
    rcases hE.more _ hs' with h | ⟨i, e2, h1, h2⟩ | h
    · exact hs h
    · exact hside b e hb he i e2 h1 h2
    · have := (hcbl b e he).2
      omega
  refine ⟨hEx, ⟨⟨fun b k' hk' hz' => ?_, fun b k' hk' hz' => ?_, fun b hb => ?_, fun b b' e e' h1 h2 h3 => ?_⟩, hW'.below, hW'.live, hW'.env⟩, hup⟩
  · have small : ∀ (i : Nat) (k : dT), o9 aD μ.length i = b → μs'[i]? = some k → k' = r9 aD μ.length k → ∃ e cs, wO aD μ.length γ γs' b = some e ∧ e.gen = k'.gen ∧ e.sz = k'.sz ∧ oO w' e.cb cs k' ∧ cs.size = e.cap ∧ k'.cells.length ≤ e.cap ∧
        (∀ (i : Nat) a, k'.cells[i]? = some a → ∃ v, cs[i]? = some v ∧ VR w' S' (wO aD μ.length γ γs') a v ∧ v.oneCell' = true) ∧ w0.heap.size ≤ e.cb ∧ (k'.frozen = false → ¬ S' e.cb) := fun i k hi hk hkk => by
      subst hkk
      obtain ⟨e, cs, q1, q2, q3, q4, q5, q6, q7, q8, q9⟩ := hW'.mem.blk i k hk hz'
      refine ⟨e, cs, hi ▸ hup i e q1, q2, q3, q4, q5, by simpa [r9] using q6, fun j a ha => ?_, q8, q9⟩
      simp only [r9, List.getElem?_map] at ha
      obtain ⟨a0, g1, rfl⟩ := Option.map_eq_some_iff.mp ha
      obtain ⟨v, r1, r2, r3⟩ := q7 j a0 g1
      exact ⟨v, r1, yG 3 hup r2, r3⟩
    rcases yH aD μs' μ hlen hnd hlt b k' hk' with ⟨i, k, h1, h2, h3⟩ | ⟨h1, h2, h3⟩ | ⟨h1, k, h2, h3⟩
    · exact small i k (by unfold o9; rw [h1]) h2 h3
    · obtain ⟨e, cs, q1, q2, q3, q4, q5, q6, q7, q8, q9⟩ := hW.mem.blk b k' h3 hz'
      refine ⟨e, cs, (vg h2 h1).trans q1, q2, q3, q4.congr (hE.frame e.cb (hcbl b e q1).2 (hside b e h2 q1)) rfl id, q5, q6, fun j a ha => ?_, q8, fun hf => hnS b e h2 q1 (q9 hf)⟩
      obtain ⟨v, r1, r2, r3⟩ := q7 j a ha
      exact ⟨v, r1, r2.ext hEx, r3⟩
    · exact small _ k (by unfold o9; rw [List.getElem?_eq_none (by omega)]; simp only; omega) h2 h3
  · have small : ∀ (i : Nat) (k : dT), o9 aD μ.length i = b → μs'[i]? = some k → k' = r9 aD μ.length k → ∃ e, wO aD μ.length γ γs' b = some e ∧ e.gen = k'.gen ∧ e.sz = k'.sz ∧ vN w' S' (wO aD μ.length γ γs') k' e.cb ∧ w0.heap.size ≤ e.cb ∧ (k'.frozen = false → ¬ S' e.cb) := fun i k hi hk hkk => by
      subst hkk
      obtain ⟨e, q1, q2, q3, ⟨es, clock, r1, r2, r3⟩, q8, q9⟩ := hW'.mem.mp i k hk hz'
      refine ⟨e, hi ▸ hup i e q1, q2, q3, ⟨es, clock, r1, ⟨by simpa [r9] using r2.len, fun j a v ha hv => ?_⟩, r3⟩, q8, q9⟩
      simp only [r9, List.getElem?_map] at ha
      obtain ⟨a0, g1, rfl⟩ := Option.map_eq_some_iff.mp ha
      exact yG 3 hup (r2.at_ j a0 v g1 hv)
    rcases yH aD μs' μ hlen hnd hlt b k' hk' with ⟨i, k, h1, h2, h3⟩ | ⟨h1, h2, h3⟩ | ⟨h1, k, h2, h3⟩
    · exact small i k (by unfold o9; rw [h1]) h2 h3
    · obtain ⟨e, q1, q2, q3, q4, q8, q9⟩ := hW.mem.mp b k' h3 hz'
      exact ⟨e, (vg h2 h1).trans q1, q2, q3, q4.ext hEx (hE.frame e.cb (hcbl b e q1).2 (hside b e h2 q1)), q8, fun hf => hnS b e h2 q1 (q9 hf)⟩
    · exact small _ k (by unfold o9; rw [List.getElem?_eq_none (by omega)]; simp only; omega) h2 h3
  · rw [zW aD μs' μ hlen] at hb
    unfold wO
    rw [pT fun h => by have := hlt b h; omega]
    simp only
    rw [if_neg (by omega)]
    exact hW'.mem.none _ (by omega)
  · have cross : ∀ {b b' : Nat} {e e' : tq} {i : Nat}, γs' i = some e → b' ∉ aD → γ b' = some e' → e.cb = e'.cb → False := fun {b b' e e' i} h1 h2 h3 h4 => by
      rcases hE.cbs i e h1 with ⟨i0, e0, g1, g2⟩ | g1
      · exact hside b' e' h2 h3 i0 e0 g1 (g2.trans h4)
      · have := (hcbl b' e' h3).2
        omega
    rcases vf h1 with ⟨i, q1, q2⟩ | ⟨q1, q2, q3⟩ <;> rcases vf h2 with ⟨j, r1, r2⟩ | ⟨r1, r2, r3⟩
    · have := hW'.mem.inj i j e e' q2 r2 h3
      subst this
      rw [← q1, ← r1]
    · exact (cross (b := b) q2 r2 r3 h3).elim
    · exact (cross (b := b) r2 q2 q3 h3.symm).elim
    · exact hW.mem.inj b b' e e' q3 r3 h3
theorem aN.frame {f:FuncId} {al:List AV} {r:AV} {μs':AM} (h:aN C f al μs r μs') (aD:List Nat) (μ:AM) (hnd:aD.Nodup) (hlt:∀b∈aD,b<μ.length) (hh:wN aD μ.length μ 0 aD μs) (hok:aP μs μs.length=true) (hal:∀a∈al,ck 3 μs.length a=true) (hlen:aD.length≤μs'.length) :
  aN C f (al.map (pS aD μ.length 3)) μ (pS aD μ.length 3 r) (xY aD μ.length aD μs' μ):=by
 refine⟨h.1,fun w0 S γ w vs hW hp=>?_⟩;obtain⟨hem,hWs⟩:=FT hW hnd hh hok;refine(h.2 w0 S _ w vs hWs (zX hal hem hp)).mono fun e w' hh'=>?_
 obtain⟨v,S',γs',he,hE,hW',hv⟩:=hh';obtain⟨h1,h2,h3⟩:=zY hW hnd hlt hlen hE hW';exact⟨v,S',_,he,h1,h2,yG 3 h3 hv⟩
theorem eQ.frame {f:FuncId} {al:List AV} {c:List PanicEntry} {Post:AM→Prop} (h:eQ C f al μs c Post) (aD:List Nat) (μ:AM) (hnd:aD.Nodup) (hlt:∀b∈aD,b<μ.length) (hh:wN aD μ.length μ 0 aD μs) (hok:aP μs μs.length=true) (hal:∀a∈al,ck 3 μs.length a=true) (hP:∀μ',Post μ'→aD.length≤μ'.length) :
  eQ C f (al.map (pS aD μ.length 3)) μ c (fun μ'=>∃μs',Post μs'∧μ'=xY aD μ.length aD μs' μ):=by
 refine⟨h.1,fun w0 S γ w vs hW hp=>?_⟩;obtain⟨hem,hWs⟩:=FT hW hnd hh hok;refine(h.2 w0 S _ w vs hWs (zX hal hem hp)).mono fun e w' hh'=>?_
 obtain⟨S',γs',μs',he,hE,hW',hp'⟩:=hh';obtain⟨h1,h2,-⟩:=zY hW hnd hlt (hP _ hp') hE hW';exact⟨S',_,_,he,h1,h2,μs',hp',rfl⟩
end
end
section
section
variable {C:Ctx} {w0 w:World} {S:Nat→Prop} {γ:Gh} {μ:AM} {f:AF} {a:Act} {o:Oper} {ops:Array Oper}
def GE (μ0:AM) (e:Nat→Bool) (M:Nat→AM) (E:Nat→Bool):Nat→AM
 |0=>μ0
 |k+1=>bif E k&&e k then M (k+1) else GE μ0 e M E k
structure vh (C:Ctx) (n:Nat) (own:Nat→Bool) (ops:Array Oper) (al:List cZ) (cm dr:Nat→Bool) (hs:Nat→Hint) (e:Nat→Bool) (F:Nat→AF) (M:Nat→AM) (V:Nat→AV):Prop where
 len:al.length=ops.size
 at_:∀(j:Nat),j<ops.size→∃o vc pr,ops[j]?=some o∧eo C.P own n ops o=some (al.getD j default)∧cd (aj C) (aN C) (cm j) (dr j) (F j) (M j) (al.getD j default) (hs j)=some (vc,pr,V j,M (j+1))∧aG vc∧aM pr ∧
  F (j+1)=put (F j) (al.getD j default).dst (V j)
 e1:∀k,k<ops.size→e k=false→M (k+1)=M k
 e2:∀k,k<ops.size→e k=true→eE (al.getD k default).k=true∨(k+1=ops.size∧still (al.getD k default).k=false∧∀p,p+1<ops.size→∃q,p<q∧q<ops.size∧dep (al.getD p default) (al.getD q default)=true)
theorem A8 {n:Nat} {own:Nat→Bool} {al:List cZ} {cm dr:Nat→Bool} {hs:Nat→Hint} {e:Nat→Bool} {F:Nat→AF} {M:Nat→AM} {V:Nat→AV} (hT:vh C n own ops al cm dr hs e F M V)
  (hd:∀p q,p<q→q<ops.size→dep (al.getD p default) (al.getD q default)=true→((dW ops.toList []).getD q 0).testBit p=true)
  {E:Nat→Bool} (hcl:∀(j:Nat) o,ops[j]?=some o→E j=true→∀e∈o.after.toList,Region.binds .any e=true→E e.on=true) {q:Nat} (hq:q<ops.size) (hqE:E q=false)
  (hr:∀o,ops[q]?=some o→∀e∈o.after.toList,Region.binds .any e=true→E e.on=true) {E':Nat→Bool} (hE':∀j,E' j=(j==q||E j))
  (hW:Wd C w0 S γ (GE (M 0) e M E ops.size) w) (hF:FR C.D n w S γ (GF (F 0) al V E ops.size) a) {K':Act→World→Prop} {Q:Exit→Act→World→Prop}
  (hK:∀a' w' S' γ',Ext w S γ w' S' γ'→Wd C w0 S' γ' (GE (M 0) e M E' ops.size) w'→FR C.D n w' S' γ' (GF (F 0) al V E' ops.size) a'→K' a' w'):wpOp C.P ops Q q K' a w:=by
 obtain⟨o,vc,pr,ho,hco,hev,hvc,hpr,hFq⟩:=hT.at_ q hq;obtain⟨ow,hkk,hdst,hlt,-⟩:=bG hco;have before:∀p,p<q→dep (al.getD p default) (al.getD q default)=true→E p=true:=fun p hp hdp =>
  ahead (E:=fun j=>E j=true) (fun j o h1 h2 e h3 h4=>hcl j o (by rw[Array.getElem?_toList]at h1;exact h1) h2 e h3 h4) q o (by rw[Array.getElem?_toList];exact ho) (hr o ho) p (hd p q hp hq hdp)
 have behind:∀p,q<p→p<ops.size→dep (al.getD q default) (al.getD p default)=true→E p=false:=fun p hp hps hdp=>by
  cases hEp:E p with
  |false=>rfl
  |true =>
   obtain⟨op,_,_,hop,-⟩:=hT.at_ p hps;have:=ahead (E:=fun j=>E j=true) (fun j o h1 h2 e h3 h4=>hcl j o (by rw[Array.getElem?_toList]at h1;exact h1) h2 e h3 h4) p op (by rw[Array.getElem?_toList];exact hop) (hcl p op hop hEp) q (hd q p hp hps hdp);simp only[hqE]at this;cases this
 have closed:∀p r,p<r→r<ops.size→dep (al.getD p default) (al.getD r default)=true→E r=true→E p=true:=fun p r hpr hrs hdp hEr=>by
  obtain⟨or,_,_,hor,-⟩:=hT.at_ r hrs;exact ahead (E:=fun j=>E j=true) (fun j o h1 h2 e h3 h4=>hcl j o (by rw[Array.getElem?_toList]at h1;exact h1) h2 e h3 h4) r or (by rw[Array.getElem?_toList];exact hor) (hcl r or hor hEr) p (hd p r hpr hrs hdp)
 have lastE:∀k,q<k→k+1=ops.size→(∀p,p+1<ops.size→∃q,p<q∧q<ops.size∧dep (al.getD p default) (al.getD q default)=true)→E k=false:=fun k hqk hks htl=>by
  cases hEk:E k with
  |false=>rfl
  |true =>
   have key:∀m p,p+m=k→E p=true:=by
    intro m;induction m using Nat.strongRecOn with
    |_ m ih =>
     intro p hp;by_cases hm:m=0
     ·rw[show p=k by omega];exact hEk
     ·obtain⟨r,h1,h2,h3⟩:=htl p (by omega);exact closed p r h1 h2 h3 (ih (k-r) (by omega) r (by omega))
   have:=key (k-q) q (by omega);rw[hqE]at this;cases this
 have reads:∀t∈dQ (al.getD q default),get (GF (F 0) al V E ops.size) t=get (F q) t:=by
  intro t ht;have low:∀k,k≤q→get (GF (F 0) al V E k) t=get (F k) t:=by
   intro k;induction k with
   |zero=>intro _;rfl
   |succ k ih =>
    intro hk;obtain⟨_,_,_,_,_,_,_,_,hFk⟩:=hT.at_ k (by omega);have ih:=ih (by omega);rw[GF,hFk];by_cases hdt:(al.getD k default).dst=some t
    ·have hE:=before k (by omega) (by simp only[dep,mP hdt ht,Bool.true_or]);rw[hE,cond_true,hdt,bc,bc]
    ·rw[ba hdt];cases E k with
     |true=>rw[cond_true,ba hdt];exact ih
     |false=>exact ih
  have high:∀m,q+m≤ops.size→get (GF (F 0) al V E (q+m)) t=get (GF (F 0) al V E q) t:=by
   intro m;induction m with
   |zero=>intro _;rfl
   |succ m ih =>
    intro hm;have ih:=ih (by omega);show get (GF (F 0) al V E (q+m+1)) t=_;rw[GF];by_cases hdt:(al.getD (q+m) default).dst=some t
    ·have hE:E (q+m)=false:=by
      cases m with
      |zero=>exact hqE
      |succ m=>exact behind (q+(m+1)) (by omega) (by omega) (by simp only[dep,mP hdt ht,Bool.or_true,Bool.true_or])
     rw[hE];exact ih
    ·cases E (q+m) with
     |true=>rw[cond_true,ba hdt];exact ih
     |false=>exact ih
  have h1:=high (ops.size-q) (by omega);rw[show q+(ops.size-q)=ops.size by omega]at h1;rw[h1];exact low q (Nat.le_refl _)
 have calmM:∀k,k<ops.size→e k=false→M (k+1)=M k:=hT.e1;have memq:still (al.getD q default).k=false→GE (M 0) e M E q=M q∧GE (M 0) e M E ops.size=M q:=by
  intro hns;have low:∀k,k≤q→GE (M 0) e M E k=M k:=by
   intro k;induction k with
   |zero=>intro _;rfl
   |succ k ih =>
    intro hk;have ih:=ih (by omega);rw[GE];cases he:e k with
    |true =>
     have he':eE (al.getD k default).k=true:=(hT.e2 k (by omega) he).resolve_right (fun h=>by omega);have hE:=before k (by omega) (by simp only[dep,he',hns,Bool.not_false,Bool.and_true,Bool.or_true,Bool.true_or]);rw[hE];rfl
    |false=>rw[Bool.and_false,cond_false,ih,calmM k (by omega) he]
  have high:∀m,q+m≤ops.size→GE (M 0) e M E (q+m)=GE (M 0) e M E q:=by
   intro m;induction m with
   |zero=>intro _;rfl
   |succ m ih =>
    intro hm;have ih:=ih (by omega);show GE (M 0) e M E (q+m+1)=_;rw[GE];cases he:e (q+m) with
    |true =>
     have hE:E (q+m)=false:=by
      cases m with
      |zero=>exact hqE
      |succ m =>
       rcases hT.e2 (q+(m+1)) (by omega) he with he'|⟨h1,-,h3⟩
       ·exact behind (q+(m+1)) (by omega) (by omega) (by simp only[dep,he',hns,Bool.not_false,Bool.and_true,Bool.or_true])
       ·exact lastE _ (by omega) h1 h3
     rw[hE];exact ih
    |false=>rw[Bool.and_false];exact ih
  have h1:=high (ops.size-q) (by omega);rw[show q+(ops.size-q)=ops.size by omega]at h1;exact⟨low q (Nat.le_refl _),h1.trans (low q (Nat.le_refl _))⟩
 have frameNe:∀t,(al.getD q default).dst≠some t→get (GF (F 0) al V E' ops.size) t=get (GF (F 0) al V E ops.size) t:=by
  intro t ht;have:∀k,get (GF (F 0) al V E' k) t=get (GF (F 0) al V E k) t:=by
   intro k;induction k with
   |zero=>rfl
   |succ k ih =>
    rw[GF,GF,hE'];by_cases hkq:k=q
    ·subst hkq;rw[hqE];simp only[beq_self_eq_true,Bool.true_or,cond_true,cond_false];rw[ba ht];exact ih
    ·rw[show(k==q)=false by simpa using hkq,Bool.false_or];cases E k with
     |true =>
      simp only[cond_true];by_cases hdt:(al.getD k default).dst=some t
      ·rw[hdt,bc,bc]
      ·rw[ba hdt,ba hdt];exact ih
     |false=>exact ih
  exact this _
 have frameEq:∀t,(al.getD q default).dst=some t→get (GF (F 0) al V E' ops.size) t=V q:=by
  intro t ht;have:∀m,q+1+m≤ops.size→get (GF (F 0) al V E' (q+1+m)) t=V q:=by
   intro m;induction m with
   |zero =>
    intro _;rw[Nat.add_zero,GF,hE'];simp only[beq_self_eq_true,Bool.true_or,cond_true];rw[ht,bc]
   |succ m ih =>
    intro hm;have ih:=ih (by omega);show get (GF (F 0) al V E' (q+1+m+1)) t=_;rw[GF,hE'];rw[show(q+1+m==q)=false by simp;omega,Bool.false_or];by_cases hdt:(al.getD (q+1+m) default).dst=some t
    ·have hE:=behind (q+1+m) (by omega) (by omega) (by simp only[dep,oi ht hdt,Bool.or_true,Bool.true_or]);rw[hE];exact ih
    ·cases E (q+1+m) with
     |true=>rw[cond_true,ba hdt];exact ih
     |false=>exact ih
  have h1:=this (ops.size-(q+1)) (by omega);rwa [show q+1+(ops.size-(q+1))=ops.size by omega]at h1
 have memE':(e q=false→GE (M 0) e M E' ops.size=GE (M 0) e M E ops.size)∧(e q=true→GE (M 0) e M E' ops.size=M (q+1)):=by
  refine⟨fun he=>?_,fun he=>?_⟩
  ·have:∀k,GE (M 0) e M E' k=GE (M 0) e M E k:=by
    intro k;induction k with
    |zero=>rfl
    |succ k ih =>
     rw[GE,GE,hE'];by_cases hkq:k=q
     ·subst hkq;rw[he,Bool.and_false,Bool.and_false];exact ih
     ·rw[show(k==q)=false by simpa using hkq,Bool.false_or,ih]
   exact this _
  ·have hns:still (al.getD q default).k=false:=by
    rcases hT.e2 q hq he with he|⟨-,h,-⟩
    ·cases hk:(al.getD q default).k<;>rw[hk]at he<;>simp[eE,calm]at he<;>simp[still,he]
    ·exact h
   have:∀m,q+1+m≤ops.size→GE (M 0) e M E' (q+1+m)=M (q+1):=by
    intro m;induction m with
    |zero =>
     intro _;rw[Nat.add_zero,GE,hE',he];simp
    |succ m ih =>
     intro hm;have ih:=ih (by omega);show GE (M 0) e M E' (q+1+m+1)=_;rw[GE,hE'];rw[show(q+1+m==q)=false by simp;omega,Bool.false_or];cases he2:e (q+1+m) with
     |true =>
      have hE:E (q+1+m)=false:=by
       rcases hT.e2 (q+1+m) (by omega) he2 with he'|⟨h1,-,h3⟩
       ·exact behind (q+1+m) (by omega) (by omega) (by simp only[dep,he',hns,Bool.not_false,Bool.and_true,Bool.or_true])
       ·exact lastE _ (by omega) h1 h3
      rw[hE];exact ih
     |false=>rw[Bool.and_false];exact ih
   have h1:=this (ops.size-(q+1)) (by omega);rwa [show q+1+(ops.size-(q+1))=ops.size by omega]at h1
 have hvals:∀t∈dQ (al.getD q default),VR w S γ (get (F q) t) (a.eval (.tmp t)):=fun t ht=>by
  rw[←reads t ht];exact hF.val t
 have fin:∀u w' S' γ',Ext w S γ w' S' γ'→Wd C w0 S' γ' (GE (M 0) e M E' ops.size) w'→VR w' S' γ' (V q) u→K' (a.put o.dst u) w':=by
  intro u w' S' γ' hE hW' hv;refine hK _ w' S' γ' hE hW' ?_;have hFx:=hF.ext hE;have h1:FR C.D n w' S' γ' (Pur.put (GF (F 0) al V E ops.size) o.dst (V q)) (a.put o.dst u):=hFx.put hv hlt;refine⟨h1.size,h1.defers,fun t=>?_⟩;have h2:=h1.val t;by_cases hdt:(al.getD q default).dst=some t
  ·rw[frameEq t hdt];rw[←hdst,hdt,bc]at h2;rw[←hdst,hdt];exact h2
  ·rw[frameNe t hdt];rw[←hdst]at h2;rw[ba hdt]at h2;rw[←hdst];exact h2
 cases hst:still (al.getD q default).k with
 |true =>
  have hcalm:e q=false:=by
   cases heq:e q with
   |false=>rfl
   |true =>
    rcases hT.e2 q hq heq with h|⟨-,h,-⟩
    ·cases hk:(al.getD q default).k<;>rw[hk]at hst h<;>simp[still]at hst<;>simp[eE,calm,hst]at h
    ·rw[hst]at h;cases h
  have hev2:=kJ hst hev (GE (M 0) e M E ops.size);refine dE ho (bK hW hco hev2 hvc hpr hvals fun u w' S' γ' hE hW' hv=>fin u w' S' γ' hE ?_ hv);rw[memE'.1 hcalm];exact hW'
 |false =>
  obtain⟨-,hm⟩:=memq hst;rw[hm]at hW;refine dE ho (bK hW hco hev hvc hpr hvals fun u w' S' γ' hE hW' hv=>fin u w' S' γ' hE ?_ hv);cases he:e q with
  |true=>rw[memE'.2 he];exact hW'
  |false=>rw[memE'.1 he,hm,←calmM q hq he];exact hW'
theorem yI {n m:Nat} {own:Nat→Bool} {al:List cZ} {cm dr:Nat→Bool} {hs:Nat→Hint} {e:Nat→Bool} {F:Nat→AF} {M:Nat→AM} {V:Nat→AV} {R:Exit→AF→AM→Prop} (hT:vh C n own ops al cm dr hs e F M V)
  (hedge:iT ops.toList 0=true) (hd:∀p q,p<q→q<ops.size→dep (al.getD p default) (al.getD q default)=true→((dW ops.toList []).getD q 0).testBit p=true) (hR:R .normal (F ops.size) (M ops.size)) :
  ∀(fuel:Nat) (listed:Array Bool) (S1:Nat→Prop) (γ1:Gh) (w1:World) (a1:Act),listed.size=ops.size→(List.range ops.size).countP (fun i=>!listed.getD i true)≤fuel →
   (∀(j:Nat) o,ops[j]?=some o→listed.getD j true=true→∀e∈o.after.toList,Region.binds .any e=true→listed.getD e.on true=true) →
   Ext w S γ w1 S1 γ1→Wd C w0 S1 γ1 (GE (M 0) e M (fun j=>listed.getD j true) ops.size) w1→FR C.D n w1 S1 γ1 (GF (F 0) al V (fun j=>listed.getD j true) ops.size) a1 →
   wpAny C.P .any ops (Ends C n m w0 w S γ R) fuel listed a1 w1:=by
 have edge:∀(j:Nat) o,ops[j]?=some o→∀e∈o.after.toList,Region.binds .any e=true→e.on<j:=fun j o ho e he hb=>by
  have:=iL ops.toList hedge (by rw[Array.getElem?_toList];exact ho) e he hb;omega
 have stop:∀(listed:Array Bool) (S1:Nat→Prop) (γ1:Gh) (w1:World) (a1:Act),listed.size=ops.size→Region.ready .any ops listed=[] →
   Ext w S γ w1 S1 γ1→Wd C w0 S1 γ1 (GE (M 0) e M (fun j=>listed.getD j true) ops.size) w1→FR C.D n w1 S1 γ1 (GF (F 0) al V (fun j=>listed.getD j true) ops.size) a1→Ends C n m w0 w S γ R .normal a1 w1:=by
  intro listed S1 γ1 w1 a1 hsz hnil hE hW hF;have all:∀j,j<ops.size→listed.getD j true=true:=by
   intro j;induction j using Nat.strongRecOn with
   |_ j ih =>
    intro hj;cases hl:listed.getD j true with
    |true=>rfl
    |false =>
     have ho:ops[j]?=some ops[j]:=by simp[hj]
     have:j∈Region.ready .any ops listed:=cO.mpr ⟨hj,hl,_,ho,fun e he hb=>by
      have h1:=edge j _ ho e he hb;have h2:=ih e.on h1 (by omega);have hlt:e.on<listed.size:=by omega
      simpa [Array.getD,hlt]using h2⟩
     rw[hnil]at this;cases this
  have hGF:∀k,k≤ops.size→GF (F 0) al V (fun j=>listed.getD j true) k=F k:=by
   intro k;induction k with
   |zero=>intro _;rfl
   |succ k ih =>
    intro hk;obtain⟨_,_,_,_,_,_,_,_,hFk⟩:=hT.at_ k (by omega);rw[GF,all k (by omega),cond_true,ih (by omega),hFk]
  have hGM:∀k,k≤ops.size→GE (M 0) e M (fun j=>listed.getD j true) k=M k:=by
   intro k;induction k with
   |zero=>intro _;rfl
   |succ k ih =>
    intro hk;rw[GE,all k (by omega),Bool.true_and];cases he:e k with
    |true=>rfl
    |false =>
     rw[cond_false,ih (by omega)];exact(hT.e1 k (by omega) he).symm
  rw[hGM _ (Nat.le_refl _)]at hW;rw[hGF _ (Nat.le_refl _)]at hF;exact⟨S1,γ1,_,_,hE.toM m,hW,hF,hR⟩
 intro fuel;induction fuel with
 |zero =>
  intro listed S1 γ1 w1 a1 hsz hcnt hcl hE hW hF;have hnil:Region.ready .any ops listed=[]:=by
   cases hr:Region.ready .any ops listed with
   |nil=>rfl
   |cons i r =>
    have hi:i∈Region.ready .any ops listed:=by rw[hr];exact List.mem_cons_self
    obtain⟨h1,h2,-⟩:=cO.mp hi;have:0<(List.range ops.size).countP (fun i=>!listed.getD i true):=List.countP_pos_iff.mpr ⟨i,List.mem_range.mpr h1,by simp[h2]⟩;omega
  exact⟨hnil,stop listed S1 γ1 w1 a1 hsz hnil hE hW hF⟩
 |succ fuel ih =>
  intro listed S1 γ1 w1 a1 hsz hcnt hcl hE hW hF;refine⟨fun hnil=>stop listed S1 γ1 w1 a1 hsz hnil hE hW hF,fun q hq=>?_⟩;obtain⟨h1,h2,o,ho,h3⟩:=cO.mp hq;have hset:∀j,(listed.setIfInBounds q true).getD j true=(j==q||listed.getD j true):=fun j=>by
   by_cases hjq:j=q
   ·subst hjq;simp[Array.getD,hsz,h1]
   ·rw[show(j==q)=false by simpa using hjq,Bool.false_or];simp only[Array.getD_eq_getD_getElem?];rw[Array.getElem?_setIfInBounds_ne (Ne.symm hjq)]
  have hqE:∀e:Nat,e<ops.size→listed.getD e false=true→listed.getD e true=true:=fun e he h=>by
   have hlt:e<listed.size:=by omega
   simpa [Array.getD,hlt]using h
  have hrq:∀o,ops[q]?=some o→∀e∈o.after.toList,Region.binds .any e=true→listed.getD e.on true=true:=fun o' ho' e he hb=>by
   rw[ho]at ho';injection ho' with ho';subst ho'
   have:=edge q o ho e he hb;exact hqE e.on (by omega) (h3 e he hb)
  refine A8 hT hd (E:=fun j=>listed.getD j true) hcl h1 h2 hrq (E':=fun j=>(listed.setIfInBounds q true).getD j true) hset hW hF fun a' w' S' γ' hE' hW' hF'=>?_
  refine ih (listed.setIfInBounds q true) S' γ' w' a' (by simp[hsz]) ?_ ?_ (hE.trans hE') hW' hF'
  ·have:=gR (p:=fun i=>!listed.getD i true) (q:=fun i=>!(listed.setIfInBounds q true).getD i true) (List.range ops.size) (List.mem_range.mpr h1) (by simp[h2]) (by rw[hset];simp) (fun j hj=>by
    rw[hset]at hj;simp only[Bool.not_or,Bool.and_eq_true]at hj;exact hj.2)
   omega
  ·intro j oj hoj hj e he hb;rw[hset]at hj ⊢;simp only[Bool.or_eq_true,beq_iff_eq]at hj ⊢;rcases hj with hj|hj
   ·subst hj;exact .inr (hrq oj hoj e he hb)
   ·exact .inr (hcl j oj hoj hj e he hb)
def vi (al:List cZ):Bool:=((List.range (al.length-1)).all fun p=>(List.range al.length).any fun q=>Nat.blt p q&&dep (al.getD p default) (al.getD q default))&& !still (al.getD (al.length-1) default).k
theorem yJ {n m:Nat} {own:Nat→Bool} {cm:Bool} {al:List cZ} {x:cZ} {hs:List (Nat×Hint)} {h:Hint} {vc vc2:VC} {pr pr2:List Prop} {f1 f':AF} {μ1 μ':AM} {R:Exit→AF→AM→Prop} (ht:vi (al++[x])=true)
  (he:bV (aj C) (aN C) cm true al hs 0 [] [] f μ=some (vc,pr,f1,μ1)) (hvc:aG vc) (hpr:aM pr) (he2:gF (aj C) (aN C) false false f1 μ1 x h=some (vc2,pr2,f',μ')) (hvc2:aG vc2) (hpr2:aM pr2) (hR:R .normal f' μ') :
  Aw C own n m (.region true (al++[x])) R f μ:=by
 intro c hc;obtain⟨id,ops,rfl,hc,hd⟩:=gT hc;intro w0 S γ w a hW hF;obtain⟨-,F,M,V,h1,h2,h3,h4,h5⟩:=b6 al 0 [] [] f μ vc pr f1 μ1 he hvc hpr;obtain⟨hl,hat⟩:=dA hc;replace hl:(al++[x]).length=ops.size:=hl.trans (Array.length_toList);have hl2:al.length+1=ops.size:=by rw[←hl];simp
 rw[Nat.zero_add]at h3 h4;unfold gF at he2;cases hv:cd (aj C) (aN C) false false f1 μ1 x h with
 |none=>rw[hv]at he2;cases he2
 |some q =>
  obtain⟨vc3,pr3,v,μ3⟩:=q;rw[hv]at he2;simp only at he2;obtain⟨rfl,rfl,rfl,rfl⟩:=cB he2;have hg1:∀j,j<al.length→(al++[x]).getD j default=al.getD j default:=fun j hj=>by simp[List.getD,List.getElem?_append_left hj]
  have hg2:(al++[x]).getD al.length default=x:=by simp[List.getD]
  simp only[vi,Bool.and_eq_true,Bool.not_eq_true']at ht;have hT:vh C n own ops (al++[x]) (fun j=>if j<al.length then cm else false) (fun j=>decide (j<al.length)) (fun j=>if j<al.length then bB hs j else h) (fun j=>if j<al.length then eE ((al++[x]).getD j default).k else true)
    (fun j=>if j≤al.length then F j else put f1 x.dst v) (fun j=>if j≤al.length then M j else μ3) (fun j=>if j<al.length then V j else v):=by
   refine⟨hl,fun j hj=>?_,fun k hk hek=>?_,fun k hk hek=>?_⟩
   ·have ho:ops[j]?=some ops[j]:=by simp[hj]
    obtain⟨ao,hao,hco⟩:=hat j ops[j] (by rw[Array.getElem?_toList];exact ho);have hg:(al++[x]).getD j default=ao:=by rw[List.getD,hao];rfl
    by_cases hja:j<al.length
    ·obtain⟨vcj,prj,k1,k2,k3,k4⟩:=h5 j ao (by rw[List.getElem?_append_left hja]at hao;exact hao);rw[Nat.zero_add]at k1 k4;refine⟨_,vcj,prj,ho,by rw[hg];exact hco,?_,k2,k3,?_⟩
     ·rw[hg];simp only[if_pos hja,decide_eq_true hja,if_pos (show j≤al.length by omega),if_pos (show j+1≤al.length by omega)];exact k1
     ·rw[hg];simp only[if_pos hja,if_pos (show j≤al.length by omega),if_pos (show j+1≤al.length by omega)];exact k4
    ·have hja2:j=al.length:=by omega
     subst hja2;rw[hg2]at hg;subst hg;refine⟨_,vc3,pr3,ho,by rw[hg2];exact hco,?_,hvc2,hpr2,?_⟩
     ·rw[hg2];simp only[Nat.lt_irrefl,if_false,decide_false,Nat.le_refl,if_true,if_neg (show ¬al.length+1≤al.length by omega),h3,h4];exact hv
     ·rw[hg2];simp only[Nat.lt_irrefl,if_false,Nat.le_refl,if_true,if_neg (show ¬al.length+1≤al.length by omega),h3]
   ·by_cases hka:k<al.length
    ·simp only[if_pos hka]at hek;obtain⟨ao,hao,-⟩:=hat k ops[k] (by rw[Array.getElem?_toList];simp[hk]);obtain⟨vcj,prj,k1,-,-,-⟩:=h5 k ao (by rw[List.getElem?_append_left hka]at hao;exact hao);rw[Nat.zero_add]at k1;have hg:(al++[x]).getD k default=ao:=by rw[List.getD,hao];rfl
     rw[hg]at hek;simp only[if_pos (show k≤al.length by omega),if_pos (show k+1≤al.length by omega)];exact fj (by simpa [eE]using hek) k1
    ·simp only[if_neg hka]at hek;cases hek
   ·by_cases hka:k<al.length
    ·simp only[if_pos hka]at hek;exact .inl hek
    ·have hka2:k=al.length:=by omega
     subst hka2;refine .inr ⟨hl2,?_,fun p hp=>?_⟩
     ·have:=ht.2;rw[hl,←hl2,Nat.add_sub_cancel]at this;exact this
     ·have h6:=List.all_eq_true.mp ht.1 p (List.mem_range.mpr (by omega));obtain⟨q,hq1,hq2⟩:=List.any_eq_true.mp h6;simp only[Bool.and_eq_true]at hq2;exact⟨q,Nat.blt_eq.mp hq2.1,by rw[←hl];exact List.mem_range.mp hq1,hq2.2⟩
  have hok:=hd rfl;simp only[oX,Bool.and_eq_true]at hok;have hdep:∀p q,p<q→q<ops.size→dep ((al++[x]).getD p default) ((al++[x]).getD q default)=true→((dW ops.toList []).getD q 0).testBit p=true:=fun p q hpq hq hdp=>by
   have h6:=List.all_eq_true.mp hok.2 q (List.mem_range.mpr (by omega));have h7:=List.all_eq_true.mp h6 p (List.mem_range.mpr hpq);rw[hdp]at h7;simpa using h7
  obtain⟨hW1,hE1⟩:=hW.drew;refine wp_region_any C.mixed (yI hT hok.1 hdep ?_ ops.size (Array.replicate ops.size false) S γ w.drew a (by simp) (Nat.le_trans (List.countP_le_length) (by simp)) ?_ hE1 ?_ ?_)
  ·simp only[if_neg (show ¬ops.size≤al.length by omega)];exact hR
  ·intro j o ho hj;have hjs:j<ops.size:=by
    apply Classical.byContradiction;intro hn;rw[Array.getElem?_eq_none (by omega)]at ho;cases ho
   simp[Array.getD,hjs]at hj
  ·have:∀(e:Nat→Bool) (N:Nat→AM) k,k≤ops.size→GE (N 0) e N (fun j=>(Array.replicate ops.size false).getD j true) k=N 0:=by
    intro e N k;induction k with
    |zero=>intro _;rfl
    |succ k ih =>
     intro hk;have:(Array.replicate ops.size false).getD k true=false:=by simp[Array.getD];omega
     rw[GE,this,Bool.false_and,cond_false,ih (by omega)]
   have key:=this (fun j=>if j<al.length then eE ((al++[x]).getD j default).k else true) (fun j=>if j≤al.length then M j else μ3) ops.size (Nat.le_refl _);rw[key];simp only[Nat.zero_le,if_true,h2];exact hW1
  ·have:∀(N:Nat→AF) (V:Nat→AV) k,k≤ops.size→GF (N 0) (al++[x]) V (fun j=>(Array.replicate ops.size false).getD j true) k=N 0:=by
    intro N V k;induction k with
    |zero=>intro _;rfl
    |succ k ih =>
     intro hk;have:(Array.replicate ops.size false).getD k true=false:=by simp[Array.getD];omega
     rw[GF,this,cond_false,ih (by omega)]
   have key:=this (fun j=>if j≤al.length then F j else put f1 x.dst v) (fun j=>if j<al.length then V j else v) ops.size (Nat.le_refl _);rw[key];simp only[Nat.zero_le,if_true,h1];exact hF.drew hE1
end
def c6 (X:FuncId→List PV→PV→Prop) (Y:FuncId→List AV→AM→AV→AM→Prop) (T:xX) (H:List (Nat×Hint)) (cm:Bool):List cZ→VC→List Prop→AF→AM→Option (VC×List Prop×AF×AM)
 |[],_,_,_,_=>none
 |o::os,vc,pr,f,μ=>match os with
  |[]=>match gF X Y false false f μ o (fl T (fm H o.dst) f μ o.k) with
   |some (vc',pr',f',μ')=>some (vc'++vc,pr'++pr,f',μ')
   |none=>none
  |_::_=>match gF X Y cm true f μ o (fl T (fm H o.dst) (strip cm f o.k) μ o.k) with
   |some (vc',pr',f',μ')=>c6 X Y T H cm os (vc'++vc) (pr'++pr) f' μ'
   |none=>none
theorem mA {X:FuncId→List PV→PV→Prop} {Y:FuncId→List AV→AM→AV→AM→Prop} {T:xX} {H:List (Nat×Hint)} {cm:Bool}:∀(al:List cZ) (i:Nat) (vc:VC) (pr:List Prop) (f:AF) (μ:AM) (vcF:VC) (prF:List Prop) (f':AF) (μ':AM),
  c6 X Y T H cm al vc pr f μ=some (vcF,prF,f',μ')→∃al0 x hs h vc1 pr1 f1 μ1 vc2 pr2,al=al0++[x]∧bV X Y cm true al0 hs i vc pr f μ=some (vc1,pr1,f1,μ1)∧gF X Y false false f1 μ1 x h=some (vc2,pr2,f',μ')∧vcF=vc2++vc1∧prF=pr2++pr1
 |[],_,_,_,_,_,_,_,_,_,h=>by simp[c6]at h
 |o::os,i,vc,pr,f,μ,vcF,prF,f',μ',h=>by
  cases os with
  |nil =>
   simp only[c6]at h;split at h
   ·rename_i vc' pr' f1 μ1 he;obtain⟨rfl,rfl,rfl,rfl⟩:=cB h;exact⟨[],o,[],_,vc,pr,f,μ,vc',pr',rfl,rfl,he,rfl,rfl⟩
   ·cases h
  |cons o2 os =>
   rw[c6]at h;split at h
   ·rename_i vc' pr' f1 μ1 he;obtain⟨al0,x,hs,hh,vc1,pr1,f2,μ2,vc2,pr2,e1,e2,e3,e4,e5⟩:=mA (o2::os) (i+1) _ _ _ _ _ _ _ _ h;refine⟨o::al0,x,(i,fl T (fm H o.dst) (strip cm f o.k) μ o.k)::hs,hh,vc1,pr1,f2,μ2,vc2,pr2,by rw[e1];rfl,?_,e3,e4,e5⟩;simp only[bV,cQ,he];rw[←e2];exact kK al0 (i+1) _ _ _ _ fun j hj=>fq (by omega)
   ·cases h
theorem kN {C:Ctx} {own:Nat→Bool} {n m:Nat} {al:List cZ} {R:Exit→AF→AM→Prop} {f:AF} {μ:AM} {T:xX} {H:List (Nat×Hint)} (ht:vi al=true)
  (h:fc (R .normal) (c6 (aj C) (aN C) T H (guarded al) al [] [] f μ)):Aw C own n m (.region true al) R f μ:=by
 unfold fc at h;split at h
 ·rename_i vc pr f' μ' he;obtain⟨al0,x,hs,hh,vc1,pr1,f1,μ1,vc2,pr2,e1,e2,e3,rfl,rfl⟩:=mA al 0 _ _ _ _ _ _ _ _ he;rw[e1]at ht ⊢;obtain⟨h11,h12⟩:=gH h.1;obtain⟨h21,h22⟩:=og h.2.1;exact yJ ht e2 h12 h22 e3 h11 h21 h.2.2
 ·exact h.elim
end
section
def isApp:K→Bool
 | .append _ _ _ _ _=>true
 |_=>false
theorem yK {P:Program} {op:BinOp} {t:TypeId} {x y:Operand} {k:K} (hk:fH P op t x y=some k) (h:isApp k=true):False:=by
 unfold fH at hk;repeat' split at hk
 all_goals first
  |(cases hk;done)
  |(injection hk with hk;subst hk;cases h;done)
  |(obtain⟨_,hk⟩:=bD hk;first|(cases hk;done)|(injection hk with hk;subst hk;cases h;done))
theorem vj {P:Program} {c:Call} {a b:bY} {e:TypeId} {sz by_:Nat} (hk:cI P c=some (.append a b e sz by_)) :
  ∃s x t i z,c={callee:=.builtin .append,args:=#[s,x],argTypes:=#[t,t]}∧P.underlying t=some (.slice e)∧aK s=some a∧aK x=some b∧P.info? e=some i∧js P e=some z∧1≤i.size∧i.size=sz∧i.bytes=by_:=by
 obtain⟨cal,args,tys⟩:=c;obtain⟨args⟩:=args;obtain⟨tys⟩:=tys;unfold cI at hk;split at hk
 ·obtain⟨_,_,h2⟩:=map_some hk;cases h2
 ·obtain⟨_,_,h2⟩:=map_some hk;cases h2
 ·cases hk
 ·cases hk
 ·rename_i bb hcal;simp only at hcal;subst hcal;unfold dO at hk;simp only at hk;split at hk
  ·repeat' split at hk
   all_goals cases hk
  ·repeat' split at hk
   all_goals cases hk
  ·repeat' split at hk
   all_goals cases hk
  ·rename_i s x t u;split at hk
   ·rename_i e1 a1 b1 hu h1 h2 htu;have htu:=Nat.eq_of_beq_eq_true htu;subst htu;split at hk
    ·rename_i i z hi hz;obtain⟨hs1,hk⟩:=aQ hk;injection hk with hk
     injection hk with k1 k2 k3 k4 k5
     subst k1 k2 k3 k4 k5;exact⟨s,x,t,i,z,rfl,hu,h1,h2,hi,hz,Nat.le_of_ble_eq_true hs1,rfl,rfl⟩
    ·cases hk
   ·split at hk
    ·obtain⟨_,hk⟩:=aQ hk;cases hk
    ·cases hk
   ·cases hk
  ·cases hk
theorem A9 {P:Program} {own:Bool} {op:Op} {a b:bY} {e:TypeId} {sz by_:Nat} (hk:fY P own op=some (.append a b e sz by_)) :
  ∃s x t i z,op= .call {callee:=.builtin .append,args:=#[s,x],argTypes:=#[t,t]}∧P.underlying t=some (.slice e)∧aK s=some a∧aK x=some b∧P.info? e=some i∧js P e=some z∧1≤i.size∧i.size=sz∧i.bytes=by_:=by
 cases op<;>simp only[fY]at hk;case call c =>
  have hc:cI P c=some (.append a b e sz by_):=by
   split at hk
   ·rcases jx hk with hk|⟨g,as,-,-,h⟩
    ·exact hk
    ·cases h
   ·exact hk
  obtain⟨s,x,t,i,z,h1,h2⟩:=vj hc;exact⟨s,x,t,i,z,by rw[h1],h2⟩
 all_goals exfalso
 all_goals repeat' split at hk
 all_goals first
  |(cases hk;done)
  |(exact yK hk rfl)
  |contradiction
  |(injection hk with hk;cases hk;done)
  |(obtain⟨_,_,h2⟩:=map_some hk;cases h2;done)
  |(obtain⟨_,hk⟩:=aQ hk;cases hk;done)
  |(obtain⟨_,hk⟩:=aQ hk;obtain⟨_,_,h2⟩:=map_some hk;cases h2;done)
  |(rcases mM hk with⟨_,h2⟩|⟨_,h2⟩<;>cases h2)
section
variable {C:Ctx} {w0 w:World} {S:Nat→Prop} {γ:Gh} {μ:AM} {f:AF} {a:Act} {o:Oper} {ops:Array Oper}
theorem sc (t ty e:TypeId) (i:TypeInfo) (ht:C.P.underlying t=some (.slice e)) (hi:C.P.info? e=some i)
  (g off sLen sCap:Nat) (cur:Array Value) (hg:w.heap[g]?=some (.cells cur e (0,0)))
  (a:Addr) (m c:Nat) (news:List Value) (hl:news.length=m*i.size) (hnews:∀j u,news[j]?=some u→w.cell? (a.add j)=some u) (h1:∀u∈news,u.oneCell'=true)
  (hroom:sLen+m≤sCap) (hfit:off+sLen*i.size+news.length≤cur.size) :
  (Builtin.append_ #[t,t] ty #[.slice (some ⟨g,off,none⟩) sLen sCap,.slice (some a) m c]).run C.P w =
   .ok (.slice (some ⟨g,off,none⟩) (sLen+m) sCap) (w.setRow g (cur.toList.take (off+sLen*i.size)++news++cur.toList.drop (off+sLen*i.size+news.length)).toArray):=by
 have hf:=run_firstCells_some (P:=C.P) w i.size m a m c news hl hnews;have hst:=run_storeCells_at C.P g (off+sLen*i.size) e news 0 cur w hg (by simpa using hfit) h1;simp only[Nat.add_zero]at hst;simp[Builtin.append_,run_underlying ht,sizeOf,typeInfo,hi,Builtin.lenOf,hroom,hf,Addr.add_lit,hst]
theorem pU {s x:Operand} {s' x':bY} {t e:TypeId} {i:TypeInfo} {z:List PV} {m n size bytes b g off:Nat} {k:dT} {vc:VC} {cs:List AV} (hW:Wd C w0 S γ μ w) (ho:o.op= .call {callee:=.builtin .append,args:=#[s,x],argTypes:=#[t,t]})
  (hs:aK s=some s') (hx:aK x=some x') (ht:C.P.underlying t=some (.slice e)) (hi:C.P.info? e=some i) (hz:js C.P e=some z) (hs1:size≠0) (hsz:i.size=size) (hby:i.bytes=bytes)
  (hp:ev f s'= .ref b g off n) (hk:μ[b]?=some k) (hfz:k.frozen=false) (hksz:k.sz=size) (hkel:k.elem=e) (hg:g=k.gen) (hnl:off+n*size=k.cells.length) (hn0:0<n)
  (hsrc:iC μ size (ev f x')=some (vc,cs,m)) (hvc:aG vc) (hb:(n+m)*bytes≤140737488355328) (hI:((n+m:Nat):Int)≤fX) (hf:Reads w S γ f a (.append s' x' e size bytes)) :
  b9 C w0 o a S γ (.ref b (k.gen+1) off (n+m)) (μ.set b {k with cells:=k.cells++cs,gen:=k.gen+1}) w ∨
  b9 C w0 o a S γ (.ref b (k.gen+1) 0 (n+m)) (μ.set b {k with cells:=k.cells.drop off++cs,gen:=k.gen+1}) w:=by
 have k1:=aY (w:=w) (S:=S) (γ:=γ) hs fun t ht=>hf t (by simp[tmpsOf,ht])
 have k2:=aY (w:=w) (S:=S) (γ:=γ) hx fun t ht=>hf t (by simp[tmpsOf,ht])
 rw[hp]at k1;have k3:=pK hW hsrc hvc k2;obtain⟨en,cs0,he,hgen,hesz,hheap,hcs,hkl,hcells,hB,hS⟩:=hW.mem.blk b k hk (by omega);replace hheap:=hheap.free hfz;have hshape:∃cap,a.eval s= .slice (some ⟨en.cb,off,none⟩) n cap∧off+cap*en.sz=en.cap∧n≤cap∧cap≤maxLen:=by
  generalize a.eval s=sv at k1;cases k1 with
  |ref _ _ _ _ _ e' ad c hb hg' hvc' hs' =>
   rw[he]at hb;injection hb with hb;subst hb
   rcases hs' (by omega) with h|⟨h,-,-⟩
   ·exact h
   ·omega
 obtain⟨cap,hsv,hcapc,hncap,hcapm⟩:=hshape;subst hkel;have hmm:n+m≤maxLen:=by simp only[maxLen];unfold fX at hI;omega
 have hVR:∀{γ':Gh} {c':Nat} {cb sz' cap' o':Nat},γ' b=some ⟨k.gen+1,cb,cap',sz'⟩→o'+c'*sz'=cap'→n+m≤c'→c'≤maxLen→∀{w'},VR w' S γ' (.ref b (k.gen+1) o' (n+m)) (.slice (some ⟨cb,o',none⟩) (n+m) c'):=by
  intro γ' c' cb sz' cap' o' h1 h2 h3 h4 w';exact .ref _ _ _ _ _ _ ⟨cb,o',none⟩ c' h1 (Nat.le_refl _) ⟨rfl,h3⟩ fun _=>.inl ⟨c',rfl,h2,h3,h4⟩
 have hkcs:cs0.size=off+cap*size:=by rw[hcs,←hcapc,hesz,hksz]
 rcases k3 with⟨rfl,rfl,hu⟩|⟨ad,c,news,hu,hl,hpw,hcell,hone⟩
 ·have hr:=jJ (C:=C) (w:=w) (ty:=o.type) (base:=some ⟨en.cb,off,none⟩) ht hi hncap (src:=.slice none 0 0) (.inl rfl);obtain⟨hW',hE⟩:=hW.move (avs:=k.cells++[]) (ncs:=cs0) (cb:=en.cb) (w':=w) hk he (by omega) hfz rfl rfl rfl (Nat.le_refl _) (fun _ _ _=>rfl) (.inl rfl) hheap (by rw[List.append_nil];omega) (by rw[List.append_nil];exact hcells);exact .inl ⟨_,_,_,S,_,eD ho hsv hu hr,.inl rfl,hE,hW',hVR (cN _ _ _) (by rw[hksz];exact hkcs.symm) hncap hcapm⟩
 ·by_cases hroom:n+m≤cap
  ·have hmul:=Nat.mul_le_mul_right size hroom;rw[Nat.add_mul]at hmul;have hfit:off+n*i.size+news.length≤cs0.size:=by rw[hsz,hl,hkcs];omega
   have hr:=sc (C:=C) (w:=w) t o.type k.elem i ht hi en.cb off n cap cs0 hheap ad m c news (by rw[hsz];exact hl) hcell hone hroom hfit;generalize hnc:(cs0.toList.take (off+n*i.size)++news++cs0.toList.drop (off+n*i.size+news.length)).toArray=ncs at hr;rw[hsz]at hnc hfit;have hncs:ncs.size=cs0.size:=by
    rw[←hnc];simp only[List.size_toArray,List.length_append,List.length_take,List.length_drop,Array.length_toList];omega
   obtain⟨hW',hE⟩:=hW.move (avs:=k.cells++cs) (ncs:=ncs) (cb:=en.cb) (w':=w.setRow en.cb ncs) hk he (by omega) hfz rfl rfl rfl (by simp) (fun g _ h=>setRow_other w en.cb g ncs h) (.inl rfl) (setRow_heap w en.cb cs0 ncs k.elem (0,0) hheap)
    (by rw[List.length_append,hncs,hpw.len];omega) (fun j y hy=>by
     by_cases hj:j<k.cells.length
     ·rw[List.getElem?_append_left hj]at hy;obtain⟨v,g1,g2,g3⟩:=hcells j y hy;refine⟨v,?_,g2,g3⟩;rw[←g1,←hnc,List.getElem?_toArray,List.append_assoc,List.getElem?_append_left (by simp;omega),List.getElem?_take,if_pos (by omega),Array.getElem?_toList]
     ·rw[List.getElem?_append_right (by omega)]at hy;have hjm:j-k.cells.length<news.length:=by rw[←hpw.len];exact(List.getElem?_eq_some_iff.mp hy).1
      refine⟨news[j-k.cells.length],?_,hpw.at_ _ y _ hy (List.getElem?_eq_getElem hjm),hone _ (List.getElem_mem hjm)⟩;rw[←hnc,List.getElem?_toArray,List.getElem?_append_left (by simp;omega),List.getElem?_append_right (by simp;omega),←List.getElem?_eq_getElem hjm];congr 1;simp;omega)
   exact .inl ⟨_,_,_,S,_,eD ho hsv hu hr,.inl rfl,hE,hW',hVR (cN _ _ _) (by rw[hksz,hncs];exact hkcs.symm) hroom hcapm⟩
  ·obtain⟨i',zv,hi',hzv,hzl,hzlen,-⟩:=gQ (w:=w) hz;rw[hi]at hi';injection hi' with hi';subst hi'
   have hncm:=Nat.mul_le_mul_right size hncap;have holdl:((cs0.toList.drop off).take (n*size)).length=n*i.size:=by rw[hsz,List.length_take,List.length_drop,Array.length_toList];omega
   have hr:=run_append_grow (P:=C.P) w t o.type k.elem i zv ht hi hzv ⟨en.cb,off,none⟩ n cap ((cs0.toList.drop off).take (n*size)) holdl (fun j v hj=>by
    rw[List.getElem?_take]at hj;split at hj
    ·rw[List.getElem?_drop]at hj;rw[Addr.add_lit,World.cell?,hheap];rw[Array.getElem?_toList]at hj;exact hj
    ·cases hj) ad m c news (by rw[hsz];exact hl) hcell (by omega) (by unfold fX at hI;exact hI) (growslice_fits (by omega) (by rw[hby];exact hb))
   have hge:=grownCap_ge w (n+m) cap k.elem;have hgm:=grownCap_le_maxLen w (n+m) cap k.elem hmm;generalize hG:grownCap w (n+m) cap k.elem=G at hr hge hgm;have hzc:zv.cells.size=size:=by
    have:=(dv (w:=w) (S:=S) hzl).len;simp at this;omega
   generalize hnc:((cs0.toList.drop off).take (n*size)).toArray++news.toArray++Builtin.zeroCells zv.cells (G-(n+m))=ncs at hr;have hncs:ncs.size=G*size:=by
    rw[←hnc];simp only[Array.size_append,List.size_toArray,size_zeroCells,hzc,holdl,hl,hsz,←Nat.add_mul];rw[show n+m+(G-(n+m))=G by omega]
   have hle:(n+m)*size≤G*size:=Nat.mul_le_mul_right _ hge;rw[Nat.add_mul]at hle;rw[hsz]at holdl;obtain⟨hW',hE⟩:=hW.move (avs:=k.cells.drop off++cs) (ncs:=ncs) (cb:=w.heap.size) (w':=w.drew.alloc (.cells ncs k.elem)) hk he (by omega) hfz rfl rfl rfl (by simp) (fun g hg _=>Below.heap_alloc w.drew _ g hg) (.inr (Nat.le_refl _)) (heap_alloc_new w.drew _)
    (by rw[List.length_append,List.length_drop,hncs,hpw.len];omega) (fun j y hy=>by
     by_cases hj:j<n*size
     ·rw[List.getElem?_append_left (by rw[List.length_drop];omega),List.getElem?_drop]at hy;obtain⟨v,g1,g2,g3⟩:=hcells (off+j) y hy;refine⟨v,?_,g2,g3⟩;rw[←g1,←hnc,Array.append_assoc,Array.getElem?_append_left (by rw[List.size_toArray];omega),List.getElem?_toArray,List.getElem?_take,if_pos hj,List.getElem?_drop,Array.getElem?_toList]
     ·rw[List.getElem?_append_right (by rw[List.length_drop];omega),List.length_drop]at hy;have hjm:j-(k.cells.length-off)<news.length:=by rw[←hpw.len];exact(List.getElem?_eq_some_iff.mp hy).1
      refine⟨news[j-(k.cells.length-off)],?_,hpw.at_ _ y _ hy (List.getElem?_eq_getElem hjm),hone _ (List.getElem_mem hjm)⟩;rw[←hnc,Array.getElem?_append_left (by rw[Array.size_append,List.size_toArray,List.size_toArray];omega),Array.getElem?_append_right (by rw[List.size_toArray];omega),List.getElem?_toArray,←List.getElem?_eq_getElem hjm];congr 1;rw[List.size_toArray];omega)
   exact .inr ⟨_,_,_,S,_,eD ho hsv hu hr,.inl rfl,hE,hW',hVR (cN _ _ _) (by rw[hksz,hncs,Nat.zero_add]) hge hgm⟩
def CB (C:Ctx) (own:Nat→Bool) (n:Nat) (ops:Array Oper) (op:cZ) (f1:AF) (μ1:AM) (v:AV) (μ2:AM) (v':AV) (μ3:AM):Prop :=
 ∀(o:Oper) (w0:World) (S:Nat→Prop) (γ:Gh) (w:World) (a:Act) (K':Act→World→Prop) (Q:Exit→Act→World→Prop),eo C.P own n ops o=some op→Wd C w0 S γ μ1 w→FR C.D n w S γ f1 a →
  (∀u w' S' γ',Ext w S γ w' S' γ'→Wd C w0 S' γ' μ2 w'→VR w' S' γ' v u→K' (a.put o.dst u) w') →
  (∀u w' S' γ',Ext w S γ w' S' γ'→Wd C w0 S' γ' μ3 w'→VR w' S' γ' v' u→K' (a.put o.dst u) w')→o.wp C.P a w K' Q
theorem CC {n m id j:Nat} {own:Nat→Bool} {al:List cZ} {cm cm2 cm3:Bool} {hs hs2 hs3:List (Nat×Hint)} {vc vc2 vc3:VC} {pr pr2 pr3:List Prop} {f1 f2 f3:AF} {μ1 μ2 μ2' μ3 μ3':AM} {R:Exit→AF→AM→Prop} {op:cZ} {v v':AV} (hc:dZ C.P own n ops ops.toList=some al)
  (hk:al[j]?=some op) (hg:op.guard=none) (he:bV (aj C) (aN C) cm false (al.take j) hs 0 [] [] f μ=some (vc,pr,f1,μ1)) (hvc:aG vc) (hpr:aM pr) (hop:CB C own n ops op f1 μ1 v μ2 v' μ3)
  (he2:bV (aj C) (aN C) cm2 false (al.drop (j+1)) hs2 0 [] [] (put f1 op.dst v) μ2=some (vc2,pr2,f2,μ2')) (hvc2:aG vc2) (hpr2:aM pr2) (hR2:R .normal f2 μ2')
  (he3:bV (aj C) (aN C) cm3 false (al.drop (j+1)) hs3 0 [] [] (put f1 op.dst v') μ3=some (vc3,pr3,f3,μ3')) (hvc3:aG vc3) (hpr3:aM pr3) (hR3:R .normal f3 μ3'):AW C n m (.region id ops false) R f μ:=by
 intro w0 S γ w a hW hF;refine wp_region ?_;obtain⟨-,F1,M1,V1,h1,h2,h3,h4,h5⟩:=b6 (al.take j) 0 [] [] f μ vc pr f1 μ1 he hvc hpr;obtain⟨hl,hat⟩:=dA hc;replace hl:al.length=ops.size:=hl.trans (Array.length_toList);have hjl:j<al.length:=(List.getElem?_eq_some_iff.mp hk).1;have hlt:(al.take j).length=j:=by rw[List.length_take];omega
 have hld:(al.drop (j+1)).length=ops.size-(j+1):=by rw[List.length_drop,hl]
 rw[Nat.zero_add,hlt]at h3 h4;have suf:∀{cm:Bool} {hs:List (Nat×Hint)} {f0 f2:AF} {μ0 μ2:AM} {vc:VC} {pr:List Prop},bV (aj C) (aN C) cm false (al.drop (j+1)) hs 0 [] [] f0 μ0=some (vc,pr,f2,μ2)→aG vc→aM pr→R .normal f2 μ2 →
   ∀(S1:Nat→Prop) (γ1:Gh) (w1:World) (a1:Act),Ext w S γ w1 S1 γ1→Wd C w0 S1 γ1 μ0 w1→FR C.D n w1 S1 γ1 f0 a1→wpOps C.P ops (Ends C n m w0 w S γ R) (List.range' (j+1) (ops.size-(j+1))) a1 w1:=by
  intro cm hs f0 f2 μ0 μ2 vc pr he hvc hpr hR;obtain⟨-,F2,M2,V2,q1,q2,q3,q4,q5⟩:=b6 (al.drop (j+1)) 0 [] [] f0 μ0 vc pr f2 μ2 he hvc hpr;rw[Nat.zero_add,hld]at q3 q4;have go:∀(l i:Nat),i+l=ops.size-(j+1)→∀(S1:Nat→Prop) (γ1:Gh) (w1:World) (a1:Act),Ext w S γ w1 S1 γ1→Wd C w0 S1 γ1 (M2 i) w1→FR C.D n w1 S1 γ1 (F2 i) a1 →
    wpOps C.P ops (Ends C n m w0 w S γ R) (List.range' (j+1+i) l) a1 w1:=by
   intro l;induction l with
   |zero =>
    intro i hi S1 γ1 w1 a1 hE hW1 hF1;simp only[List.range'_zero];obtain rfl:i=ops.size-(j+1):=by omega
    rw[q4]at hW1;rw[q3]at hF1;exact⟨S1,γ1,f2,μ2,hE.toM m,hW1,hF1,hR⟩
   |succ l ih =>
    intro i hi S1 γ1 w1 a1 hE hW1 hF1;rw[List.range'_succ,wpOps_cons];have his:j+1+i<ops.size:=by omega
    have ho:ops[j+1+i]?=some ops[j+1+i]:=by simp[his]
    obtain⟨ao,hao,hco⟩:=hat (j+1+i) ops[j+1+i] (by rw[Array.getElem?_toList];exact ho);obtain⟨vcj,prj,k1,k2',k3,k4⟩:=q5 i ao (by rw[List.getElem?_drop];exact hao);rw[Nat.zero_add]at k1 k4;obtain⟨-,-,hdst,hlt',-⟩:=bG hco;refine dE ho (bK hW1 hco k1 k2' k3 (fun t _=>hF1.val t) fun u w3 S2 γ2 hE2 hW2 hv=>?_);have:=ih (i+1) (by omega) S2 γ2 w3 (a1.put (ops[j+1+i]).dst u) (hE.trans hE2) hW2 (by
     rw[k4,hdst];exact(hF1.ext hE2).put hv hlt')
    rw[show j+1+(i+1)=j+1+i+1 by omega]at this;exact this
  intro S1 γ1 w1 a1 hE hW1 hF1;exact go (ops.size-(j+1)) 0 (by omega) S1 γ1 w1 a1 hE (by rw[q2];exact hW1) (by rw[q1];exact hF1)
 have pre:∀(l i:Nat),i+l=j→∀(S1:Nat→Prop) (γ1:Gh) (w1:World) (a1:Act),Ext w S γ w1 S1 γ1→Wd C w0 S1 γ1 (M1 i) w1→FR C.D n w1 S1 γ1 (F1 i) a1→wpOps C.P ops (Ends C n m w0 w S γ R) (List.range' i (ops.size-i)) a1 w1:=by
  intro l;induction l with
  |zero =>
   intro i hi S1 γ1 w1 a1 hE hW1 hF1;obtain rfl:i=j:=by omega
   rw[show ops.size-i=(ops.size-(i+1))+1 by omega,List.range'_succ,wpOps_cons];have ho:ops[i]?=some ops[i]:=by simp[←hl,hjl]
   obtain⟨ao,hao,hco⟩:=hat i ops[i] (by rw[Array.getElem?_toList];exact ho);rw[hk]at hao;injection hao with hao
   subst hao;obtain⟨ow,hkk,hdst,hlt',-⟩:=bG hco;have hgo:(ops[i]).guard=none:=by
    cases hgu:(ops[i]).guard with
    |none=>rfl
    |some gb =>
     obtain⟨g0,b0⟩:=gb;obtain⟨t0,-,h0⟩:=ig hco hgu;rw[hg]at h0;cases h0
   refine dE ho ?_;unfold kj;rw[if_pos (by unfold Region.wanted;rw[hgo])];rw[h4]at hW1;rw[h3]at hF1;refine hop _ w0 S1 γ1 w1 a1 _ _ hco hW1 hF1 (fun u w' S' γ' hE2 hW2 hv=>?_) fun u w' S' γ' hE2 hW2 hv=>?_
   ·exact suf he2 hvc2 hpr2 hR2 S' γ' w' (a1.put (ops[i]).dst u) (hE.trans hE2) hW2 (by
     rw[hdst];exact(hF1.ext hE2).put hv hlt')
   ·exact suf he3 hvc3 hpr3 hR3 S' γ' w' (a1.put (ops[i]).dst u) (hE.trans hE2) hW2 (by
     rw[hdst];exact(hF1.ext hE2).put hv hlt')
  |succ l ih =>
   intro i hi S1 γ1 w1 a1 hE hW1 hF1;have his:i<ops.size:=by omega
   rw[show ops.size-i=(ops.size-(i+1))+1 by omega,List.range'_succ,wpOps_cons];have ho:ops[i]?=some ops[i]:=by simp[his]
   obtain⟨ao,hao,hco⟩:=hat i ops[i] (by rw[Array.getElem?_toList];exact ho);obtain⟨vcj,prj,k1,k2',k3,k4⟩:=h5 i ao (by rw[List.getElem?_take,if_pos (by omega)];exact hao);rw[Nat.zero_add]at k1 k4;obtain⟨-,-,hdst,hlt',-⟩:=bG hco;refine dE ho (bK hW1 hco k1 k2' k3 (fun t _=>hF1.val t) fun u w2 S2 γ2 hE2 hW2 hv=>?_);refine ih (i+1) (by omega) S2 γ2 w2 _ (hE.trans hE2) hW2 ?_;rw[k4,hdst];exact(hF1.ext hE2).put hv hlt'
 rw[List.range_eq_range'];exact pre j 0 (by omega) S γ w a (Ext.refl _ _ _) (by rw[h2];exact hW) (by rw[h1];exact hF)
theorem CD {own:Nat→Bool} {n:Nat} {op:cZ} {s x:bY} {e:TypeId} {size bytes b g off k m:Nat} {kb:dT} {vc:VC} {cs:List AV} {f1:AF} {μ1:AM} (hk:op.k= .append s x e size bytes)
  (hs:ev f1 s= .ref b g off k) (hb:μ1[b]?=some kb) (hsrc:iC μ1 size (ev f1 x)=some (vc,cs,m)) (hvc:aG vc) (h1:kb.frozen=false) (h2:kb.sz=size) (h3:kb.elem=e) (h4:g=kb.gen) (h5:off+k*size=kb.cells.length) (h6:0<k) (h7:(k+m)*bytes≤140737488355328) (h8:k+m≤1000000000) :
  CB C own n ops op f1 μ1 (.ref b (kb.gen+1) off (k+m)) (μ1.set b {kb with cells:=kb.cells++cs,gen:=kb.gen+1}) (.ref b (kb.gen+1) 0 (k+m)) (μ1.set b {kb with cells:=kb.cells.drop off++cs,gen:=kb.gen+1}):=by
 intro o w0 S γ w a K' Q hco hW hF hK1 hK2;obtain⟨ow,hkk,hdst,-,-⟩:=bG hco;rw[hk]at hkk;obtain⟨s0,x0,t,i,z,ho,ht,e1,e2,hi,hz,g1,g2,g3⟩:=A9 hkk;rcases pU hW ho e1 e2 ht hi hz (by omega) g2 g3 hs hb h1 h2 h3 h4 h5 h6 hsrc hvc h7 (by unfold fX;omega) (fun t _=>hF.val t) with h|h
 ·exact qU h hK1
 ·exact qU h hK2
def vk (C:Ctx) (k:Nat) (al:List cZ) (hs2:List (Nat×Hint)) (R:Exit→AF→AM→Prop):Option (VC×List Prop×AF×AM)→Prop
 |some (vc,pr,f1,μ1)=>aG vc∧aM pr∧match al[k]? with
  |some ⟨d,.append s x e size bytes,none⟩=>match ev f1 s with
   | .ref b g off c=>match μ1[b]?,iC μ1 size (ev f1 x) with
    |some kb,some (vc2,cs,m)=>aG vc2∧(kb.frozen=false∧kb.sz=size∧kb.elem=e∧g=kb.gen∧off+c*size=kb.cells.length∧0<c∧(c+m)*bytes≤140737488355328∧c+m≤1000000000) ∧
     fc (R .normal) (bV (aj C) (aN C) false false (al.drop (k+1)) hs2 0 [] [] (put f1 d (.ref b (kb.gen+1) off (c+m))) (μ1.set b {kb with cells:=kb.cells++cs,gen:=kb.gen+1})) ∧
     fc (R .normal) (bV (aj C) (aN C) false false (al.drop (k+1)) hs2 0 [] [] (put f1 d (.ref b (kb.gen+1) 0 (c+m))) (μ1.set b {kb with cells:=kb.cells.drop off++cs,gen:=kb.gen+1}))
    |_,_=>False
   |_=>False
  |_=>False
 |none=>False
variable {own:Nat→Bool} {n m:Nat} {R:Exit→AF→AM→Prop}
theorem CE (k:Nat) (cm:Bool) {al:List cZ} (hs hs2:List (Nat×Hint)) (h:vk C k al hs2 R (bV (aj C) (aN C) cm false (al.take k) hs 0 [] [] f μ)):Aw C own n m (.region false al) R f μ:=by
 intro c hc;obtain⟨id,ops,rfl,hc,-⟩:=gT hc;unfold vk at h;split at h
 ·rename_i vc pr f1 μ1 he;obtain⟨hvc,hpr,h⟩:=h;split at h
  ·rename_i d s x e size bytes hk;split at h
   ·rename_i b g off cc hs';split at h
    ·rename_i kb vc2 cs mm hb hsrc;obtain⟨hvc2,⟨q1,q2,q3,q4,q5,q6,q7,q8⟩,hA,hB⟩:=h;unfold fc at hA hB;split at hA
     ·rename_i vcA prA fA μA heA;split at hB
      ·rename_i vcB prB fB μB heB;exact CC hc hk rfl he hvc hpr (CD rfl hs' hb hsrc hvc2 q1 q2 q3 q4 q5 q6 q7 q8) heA hA.1 hA.2.1 hA.2.2 heB hB.1 hB.2.1 hB.2.2
      ·exact hB.elim
     ·exact hA.elim
    ·exact h.elim
   ·exact h.elim
  ·exact h.elim
 ·exact h.elim
end
end
section
theorem ma {C:Ctx} {own:Nat→Bool} {n' m:Nat} {R:Exit→AF→AM→Prop} {f:AF} {μ:AM} {ps:List PV} {g n t sz:Nat} {e:TypeId} {x:ay} (hμ:aP μ μ.length=true) (hm:m≤μ.length) (hz:sz≠0) (hl:ps.length=n*sz) (hf:∀M,kp M μ.length f=f) (hof:dm ((t,.pv (.sl n ps))::f) μ.length=true)
  (h:Aw C own n' m x R ((t,.pv (.sl n ps))::f) μ):Aw C own n' m x R ((t,.ref μ.length g 0 n)::f) (μ++[⟨ps.map .pv,g,sz,e,false⟩]):=by
 refine wB μ.length (by simp) ?_;have hb:(μ++[⟨ps.map .pv,g,sz,e,false⟩]:AM)[μ.length]?=some ⟨ps.map .pv,g,sz,e,false⟩:=by simp
 generalize hM:(μ++[⟨ps.map .pv,g,sz,e,false⟩]:AM)=M at *;have hz1:Nat.beq sz 0=false:=by rw[Bool.eq_false_iff];exact fun h=>hz (Nat.eq_of_beq_eq_true h)
 have hsol:bA M (.ref μ.length g 0 n)=some (.sl n ps):=by
  have h2:Nat.ble (0+n*sz) (ps.map AV.pv).length=true:=Nat.ble_eq_true_of_le (by simp[hl]);have h3:((ps.map AV.pv).drop 0).take (n*sz)=ps.map .pv:=by rw[List.drop_zero,List.take_of_length_le (by simp[hl])]
  have h4:∀(l:List PV),bC (l.map .pv)=some l:=fun l=>by
   induction l with
   |nil=>rfl
   |cons p r ih=>simp only[List.map_cons,bC,ih]
  simp only[bA,hb,hz1,Nat.beq_refl,h2,h3,h4,Bool.not_false,Bool.true_and,cond_true]
 have hpv:∀l:List PV,(l.map AV.pv).map (gy M μ.length)=l.map .pv:=fun l=>by simp[Function.comp_def,gy]
 have hold:∀k∈μ,{k with cells:=k.cells.map (gy M μ.length)}=k:=fun k hk=>by
  have h1:=List.all_eq_true.mp hμ k hk;have:k.cells.map (gy M μ.length)=k.cells:=by
   conv=>rhs;rw[←List.map_id k.cells]
   refine List.map_congr_left fun v hv=>?_
   exact zS (List.all_eq_true.mp h1 v hv) (by omega) M
  rw[this]
 have hmap:μ.map (fun k=>{k with cells:=k.cells.map (gy M μ.length)})=μ:=by
  conv=>rhs;rw[←List.map_id μ]
  exact List.map_congr_left fun k hk=>hold k hk
 have hfz:freeze M [μ.length]=μ++[⟨ps.map .pv,g,sz,e,true⟩]:=by
  simp only[freeze,hb];rw[←hM,List.set_append_right _ _ (by simp)];simp
 have hS:l6 M μ.length=μ++[⟨ps.map .pv,g,sz,e,true⟩]:=by
  unfold l6;rw[hfz];simp only[List.map_append,List.map_cons,List.map_nil,hmap,hpv]
 have hF:kp M μ.length ((t,.ref μ.length g 0 n)::f)=(t,.pv (.sl n ps))::f:=by
  have h1:=hf M;unfold kp at h1 ⊢;rw[List.map_cons,h1];show(t,gy M μ.length (.ref μ.length g 0 n))::f=_;simp only[gy,Nat.beq_refl,cond_true,hsol]
 rw[hS,hF];exact uZ hm hof hμ h
end
section
section
variable {C:Ctx} {w0 w:World} {S:Nat→Prop} {γ:Gh} {μ:AM} {f:AF} {a:Act} {o:Oper} {ops:Array Oper}
theorem Ba {n:Nat} {own:Nat→Bool} {al:List cZ} {hs:List (Nat×Hint)} {F:Nat→AF} {M:Nat→AM} {V:Nat→AV} {ft:Nat→dN} {bad:Nat→Bool} (hT:nK C n own ops al hs F M V bad)
  (hft:∀k,k<ops.size→ft k=a8 (M k) (aR (F k) (tmpsOf (al.getD k default).k)) (bB hs k) (al.getD k default).k)
  {B:Nat→Nat→Prop} (hd:∀p q,p<q→q<ops.size→lV (al.getD p default) (al.getD q default)=true→B p q)
  (hm:∀p q,p<q→q<ops.size→mE (al.getD p default) (al.getD q default)=true→B p q∨bP (ft p) (ft q)=true)
  {E:Nat→Bool} (hclB:∀j k,j<k→k<ops.size→B j k→E k=true→E j=true) {q:Nat} (hq:q<ops.size) (hqE:E q=false) (beforeO:∀p,p<q→B p q→E p=true) (behindO:∀p,q<p→p<ops.size→B q p→E p=false) :
  (∀t∈dQ (al.getD q default),get (GF (F 0) al V E ops.size) t=get (F q) t)∧(jQ (ft q)=true→still (al.getD q default).k=false→de (M 0) al ft M E ops.size=M q):=by
 have before:∀p,p<q→lV (al.getD p default) (al.getD q default)=true→E p=true:=fun p hp hdp=>beforeO p hp (hd p q hp hq hdp)
 have behind:∀p,q<p→p<ops.size→lV (al.getD q default) (al.getD p default)=true→E p=false:=fun p hp hps hdp=>behindO p hp hps (hd q p hp hps hdp)
 have beforeM:∀p,p<q→mE (al.getD p default) (al.getD q default)=true→E p=true∨bP (ft p) (ft q)=true:=fun p hp hdp =>
  (hm p q hp hq hdp).imp (beforeO p hp) id
 have behindM:∀p,q<p→p<ops.size→mE (al.getD q default) (al.getD p default)=true→E p=false∨bP (ft q) (ft p)=true:=fun p hp hps hdp =>
  (hm q p hp hps hdp).imp (behindO p hp hps) id
 have reads:∀t∈dQ (al.getD q default),get (GF (F 0) al V E ops.size) t=get (F q) t:=by
  intro t ht;have low:∀k,k≤q→get (GF (F 0) al V E k) t=get (F k) t:=by
   intro k;induction k with
   |zero=>intro _;rfl
   |succ k ih =>
    intro hk;obtain⟨_,_,_,_,_,_,_,_,hFk⟩:=hT.at_ k (by omega);have ih:=ih (by omega);rw[GF,hFk];by_cases hdt:(al.getD k default).dst=some t
    ·have hE:=before k (by omega) (by simp only[lV,mP hdt ht,Bool.true_or]);rw[hE,cond_true,hdt,bc,bc]
    ·rw[ba hdt];cases E k with
     |true=>rw[cond_true,ba hdt];exact ih
     |false=>exact ih
  have high:∀m,q+m≤ops.size→get (GF (F 0) al V E (q+m)) t=get (GF (F 0) al V E q) t:=by
   intro m;induction m with
   |zero=>intro _;rfl
   |succ m ih =>
    intro hm;have ih:=ih (by omega);show get (GF (F 0) al V E (q+m+1)) t=_;rw[GF];by_cases hdt:(al.getD (q+m) default).dst=some t
    ·have hE:E (q+m)=false:=by
      cases m with
      |zero=>exact hqE
      |succ m=>exact behind (q+(m+1)) (by omega) (by omega) (by simp only[lV,mP hdt ht,Bool.or_true,Bool.true_or])
     rw[hE];exact ih
    ·cases E (q+m) with
     |true=>rw[cond_true,ba hdt];exact ih
     |false=>exact ih
  have h1:=high (ops.size-q) (by omega);rw[show q+(ops.size-q)=ops.size by omega]at h1;rw[h1];exact low q (Nat.le_refl _)
 have locj:∀k,k<ops.size→Loc (ft k) (M k) (M (k+1)) fun m m'=>∃vc pr,cd (aj C) (aN C) true true (F k) m (al.getD k default) (bB hs k)=some (vc,pr,V k,m')∧(bad k=false→aG vc)∧(bad k=false→aM pr):=fun k hk=>by
  obtain⟨_,vck,prk,_,_,hevk,g1,g2,_⟩:=hT.at_ k hk;rw[hft k hk];exact(nJ hevk).imp fun m m' h=>⟨vck,prk,h,g1,g2⟩
 have calmM:∀k,k<ops.size→eE (al.getD k default).k=false→M (k+1)=M k:=fun k hk he=>by
  obtain⟨_,_,_,_,_,hevk,_⟩:=hT.at_ k hk;exact fj (by simpa [eE]using he) hevk
 have effNone:∀k,k<ops.size→eE (al.getD k default).k=true→(∃b l,ft k= .wr b l)∨jQ (ft k)=true∨∃nb,ft k= .al nb:=fun k hk he=>by
  rw[hft k hk];exact wo he
 have wrEff:∀k b l,k<ops.size→ft k= .wr b l→eE (al.getD k default).k=true:=fun k b l hk h=>by
  rw[hft k hk]at h;exact zK h
 have effS:∀k,eE (al.getD k default).k=true→still (al.getD k default).k=false:=fun k he=>by
  cases hk:(al.getD k default).k<;>rw[hk]at he<;>simp[eE,calm]at he<;>simp[still,he]
 have alEff:∀k nb,k<ops.size→ft k= .al nb→eE (al.getD k default).k=true:=fun k nb hk h=>by
  rw[hft k hk]at h;exact zL h
 have alM:∀k nb,k<ops.size→ft k= .al nb→nb=(M k).length∧∃x,M (k+1)=M k++[x]∧(M (k+1))[nb]?=some x:=fun k nb hk h=>by
  obtain⟨h0,x,h1,-⟩:=(by have:=locj k hk;rw[h]at this;exact this:Loc (.al nb) (M k) (M (k+1)) _)
  refine⟨h0,x,h1,?_⟩;rw[h1,h0,List.getElem?_append_right (Nat.le_refl _),Nat.sub_self];rfl
 have rdCalm:∀k l,k<ops.size→ft k= .rd l→eE (al.getD k default).k=false:=fun k l hk hf=>by
  cases he:eE (al.getD k default).k with
  |false=>rfl
  |true=>rcases effNone k hk he with⟨b,l,h⟩|h|⟨nb,h⟩<;>rw[hf]at h<;>cases h
 have keepM:∀k l m' n',k<ops.size→ft k= .big m' n'→apart m' n' l=true→∀b∈l,(M (k+1))[b]?=(M k)[b]?:=fun k l m' n' hk hf ha b hb=>by
  obtain⟨h0,h1⟩:=(by have:=locj k hk;rw[hf]at this;exact this:Loc (.big m' n') (M k) (M (k+1)) _)
  exact h1 b (lp ha b hb).1 (lp ha b hb).2
 have exact_:jQ (ft q)=true→still (al.getD q default).k=false→de (M 0) al ft M E ops.size=M q∧∀m,q+m≤ops.size→eE (al.getD (q+m) default).k=true→m≠0→E (q+m)=false:=by
  intro htop hns;have gone:∀m,q+m≤ops.size→q+m<ops.size→eE (al.getD (q+m) default).k=true→m≠0→E (q+m)=false:=fun m _ hlt he hne=>by
   refine(behindM (q+m) (by omega) hlt (pO hns he)).resolve_right ?_;rw[(ib htop (effNone (q+m) hlt he)).1];simp
  have low:∀k,k≤q→de (M 0) al ft M E k=M k:=by
   intro k;induction k with
   |zero=>intro _;rfl
   |succ k ih =>
    intro hk;have ih:=ih (by omega);cases he:eE (al.getD k default).k with
    |false=>rw[de,he,Bool.and_false,cond_false,ih,calmM k (by omega) he]
    |true =>
     have hE:E k=true:=(beforeM k (by omega) (pN he hns)).resolve_right (by
      rw[(ib htop (effNone k (by omega) he)).2];simp)
     rw[de,hE,he];simp only[Bool.and_self,cond_true];rcases effNone k (by omega) he with⟨c,m,hfk⟩|hfk|⟨nb,hfk⟩
     ·obtain⟨h0,nb,h1,h2,-⟩:=(by have:=locj k (by omega);rw[hfk]at this;exact this:Loc (.wr c m) (M k) (M (k+1)) _)
      have hnb:(M (k+1))[c]?=some nb:=by rw[h2];exact List.getElem?_set_self h1
      simp only[ga,hfk,hnb];rw[ih,h2]
     ·exact j7 hfk _ _
     ·obtain⟨h0,x,h1,h2⟩:=alM k nb (by omega) hfk;simp only[ga,hfk,h2];rw[ih,h1]
  have high:∀m,q+m≤ops.size→de (M 0) al ft M E (q+m)=de (M 0) al ft M E q:=by
   intro m;induction m with
   |zero=>intro _;rfl
   |succ m ih =>
    intro hm';have ih:=ih (by omega);show de (M 0) al ft M E (q+m+1)=_;rw[de];cases he:eE (al.getD (q+m) default).k with
    |false=>rw[Bool.and_false];exact ih
    |true =>
     have hE:E (q+m)=false:=by
      by_cases hm0:m=0
      ·subst hm0;exact hqE
      ·exact gone m (by omega) (by omega) he hm0
     rw[hE];exact ih
  have h1:=high (ops.size-q) (by omega);rw[show q+(ops.size-q)=ops.size by omega]at h1;refine⟨h1.trans (low q (Nat.le_refl _)),fun m hm' he hne=>?_⟩;by_cases hlt:q+m<ops.size
  ·exact gone m hm' hlt he hne
  ·have:(al.getD (q+m) default)=default:=by
    rw[List.getD,List.getElem?_eq_none (by have:=hT.len;omega)];rfl
   rw[this]at he;cases he
 exact⟨reads,fun h1 h2=>(exact_ h1 h2).1⟩
theorem yL {P:Program} {own:Bool} {g:FuncId} {al:List bY} {c:List PanicEntry} {Post:AM→Prop} {K':Act→World→Prop} {Q:Exit→Act→World→Prop} (hP:P=C.P) (hW:Wd C w0 S γ μ w) (hk:fY P own o.op=some (.callB g al))
  (hf:∀t∈kY al,VR w S γ (get f t) (a.eval (.tmp t))) (hp:eQ C g (al.map (ev f)) μ c Post)
  (hQ:∀w' S' γ' μ',Ext w S γ w' S' γ'→Wd C w0 S' γ' μ' w'→Post μ'→Q (.panic c) a w'):o.wp C.P a w K' Q:=by
 subst hP;obtain⟨c0,hop,hc1,hc2⟩:=qv hk;have hv:=gD (w:=w) (S:=S) (γ:=γ) (f:=f) (a:=a) hc2 hf;refine r8 (ch:=c) (first:=#[]) (args:=c0.args.map a.eval) (caps:=#[]) (us:=c0.args.toList.map a.eval) (R:=fun w'=>∃S' γ' μ',Ext w S γ w' S' γ'∧Wd C w0 S' γ' μ' w'∧Post μ') hop hp.1 ⟨_,hc1,rfl⟩ rfl (by simp[←Array.toList_map]) ?_ fun w' hh=>?_
 ·refine(hp.2 w0 S γ w _ hW hv).mono fun e w' hh=>?_
  obtain⟨S',γ',μ',h1,h2,h3,h4⟩:=hh;exact⟨h1,S',γ',μ',h2,h3,h4⟩
 ·obtain⟨S',γ',μ',h1,h2,h3⟩:=hh;exact hQ w' S' γ' μ' h1 h2 h3
theorem yM {n m k:Nat} {own:Nat→Bool} {al:List cZ} {hs:List (Nat×Hint)} {F:Nat→AF} {M:Nat→AM} {V:Nat→AV} {R:Exit→AF→AM→Prop} {ft:Nat→dN} (hT:nK C n own ops al hs F M V (fun j=>j==k)) (hkl:k<ops.size)
  (hft:∀k,k<ops.size→ft k=a8 (M k) (aR (F k) (tmpsOf (al.getD k default).k)) (bB hs k) (al.getD k default).k)
  (hedge:iT ops.toList 0=true) (hd:∀p q,p<q→q<ops.size→lV (al.getD p default) (al.getD q default)=true→((dW ops.toList []).getD q 0).testBit p=true)
  (hm:∀p q,p<q→q<ops.size→mE (al.getD p default) (al.getD q default)=true→((dW ops.toList []).getD q 0).testBit p=true∨bP (ft p) (ft q)=true)
  (htop:jQ (ft k)=true) (hns:still (al.getD k default).k=false)
  (hstop:∀(o:Oper) (S1:Nat→Prop) (γ1:Gh) (w1:World) (a1:Act) (K':Act→World→Prop),ops[k]?=some o→eo C.P own n ops o=some (al.getD k default)→Ext w S γ w1 S1 γ1→Wd C w0 S1 γ1 (M k) w1→FR C.D n w1 S1 γ1 [] a1 →
   (∀t∈dQ (al.getD k default),VR w1 S1 γ1 (get (F k) t) (a1.eval (.tmp t)))→kj C.P ops o a1 w1 K' (Ends C n m w0 w S γ R)) :
  ∀(fuel:Nat) (listed:Array Bool) (S1:Nat→Prop) (γ1:Gh) (w1:World) (a1:Act),listed.size=ops.size→listed.getD k true=false→(List.range ops.size).countP (fun i=>!listed.getD i true)≤fuel →
   (∀(j:Nat) o,ops[j]?=some o→listed.getD j true=true→∀e∈o.after.toList,Region.binds .any e=true→listed.getD e.on true=true) →
   Ext w S γ w1 S1 γ1→Wd C w0 S1 γ1 (de (M 0) al ft M (fun j=>listed.getD j true) ops.size) w1→FR C.D n w1 S1 γ1 (GF (F 0) al V (fun j=>listed.getD j true) ops.size) a1 →
   wpAny C.P .any ops (Ends C n m w0 w S γ R) fuel listed a1 w1:=by
 have edge:∀(j:Nat) o,ops[j]?=some o→∀e∈o.after.toList,Region.binds .any e=true→e.on<j:=fun j o ho e he hb=>by
  have:=iL ops.toList hedge (by rw[Array.getElem?_toList];exact ho) e he hb;omega
 have go:∀(listed:Array Bool),listed.size=ops.size→listed.getD k true=false→Region.ready .any ops listed≠[]:=by
  intro listed hsz hk hnil;have all:∀j,j<ops.size→listed.getD j true=true:=by
   intro j;induction j using Nat.strongRecOn with
   |_ j ih =>
    intro hj;cases hl:listed.getD j true with
    |true=>rfl
    |false =>
     have ho:ops[j]?=some ops[j]:=by simp[hj]
     have:j∈Region.ready .any ops listed:=cO.mpr ⟨hj,hl,_,ho,fun e he hb=>by
      have h1:=edge j _ ho e he hb;have h2:=ih e.on h1 (by omega);have hlt:e.on<listed.size:=by omega
      simpa [Array.getD,hlt]using h2⟩
     rw[hnil]at this;cases this
  rw[all k hkl]at hk;cases hk
 intro fuel;induction fuel with
 |zero =>
  intro listed S1 γ1 w1 a1 hsz hk hcnt hcl hE hW hF;exfalso;have:0<(List.range ops.size).countP (fun i=>!listed.getD i true):=List.countP_pos_iff.mpr ⟨k,List.mem_range.mpr hkl,by rw[hk];rfl⟩;omega
 |succ fuel ih =>
  intro listed S1 γ1 w1 a1 hsz hk hcnt hcl hE hW hF;refine⟨fun hnil=>absurd hnil (go listed hsz hk),fun q hq=>?_⟩;obtain⟨h1,h2,o,ho,h3⟩:=cO.mp hq;have hset:∀j,(listed.setIfInBounds q true).getD j true=(j==q||listed.getD j true):=fun j=>by
   by_cases hjq:j=q
   ·subst hjq;simp[Array.getD,hsz,h1]
   ·rw[show(j==q)=false by simpa using hjq,Bool.false_or];simp only[Array.getD_eq_getD_getElem?];rw[Array.getElem?_setIfInBounds_ne (Ne.symm hjq)]
  have hqE:∀e:Nat,e<ops.size→listed.getD e false=true→listed.getD e true=true:=fun e he h=>by
   have hlt:e<listed.size:=by omega
   simpa [Array.getD,hlt]using h
  have hrq:∀o,ops[q]?=some o→∀e∈o.after.toList,Region.binds .any e=true→listed.getD e.on true=true:=fun o' ho' e he hb=>by
   rw[ho]at ho';injection ho' with ho';subst ho'
   have:=edge q o ho e he hb;exact hqE e.on (by omega) (h3 e he hb)
  by_cases hqk:q=k
  ·subst hqk;have beforeO:∀p,p<q→((dW ops.toList []).getD q 0).testBit p=true→listed.getD p true=true:=fun p hp hb =>
    ahead (E:=fun j=>listed.getD j true=true) (fun j o h1 h2 e h3 h4=>hcl j o (by rw[Array.getElem?_toList]at h1;exact h1) h2 e h3 h4) q o (by rw[Array.getElem?_toList];exact ho) (hrq o ho) p hb
   have closed:∀j k,j<k→k<ops.size→((dW ops.toList []).getD k 0).testBit j=true→listed.getD k true=true→listed.getD j true=true:=fun j k hj hk hb hE=>by
    obtain⟨ok,_,_,hok,-⟩:=hT.at_ k hk;exact ahead (E:=fun j=>listed.getD j true=true) (fun j o h1 h2 e h3 h4=>hcl j o (by rw[Array.getElem?_toList]at h1;exact h1) h2 e h3 h4) k ok (by rw[Array.getElem?_toList];exact hok) (hcl k ok hok hE) j hb
   have behindO:∀p,q<p→p<ops.size→((dW ops.toList []).getD p 0).testBit q=true→listed.getD p true=false:=fun p hp hps hb=>by
    cases hEp:listed.getD p true with
    |false=>rfl
    |true =>
     have:=closed q p hp hps hb hEp;rw[this]at h2;cases h2
   obtain⟨v1,v2⟩:=Ba hT hft (B:=fun p q=>((dW ops.toList []).getD q 0).testBit p=true) hd hm (E:=fun j=>listed.getD j true) closed h1 h2 beforeO behindO;obtain⟨o',vc,pr,ho',hco,-⟩:=hT.at_ q h1;rw[v2 htop hns]at hW;refine dE ho' (hstop o' S1 γ1 w1 a1 _ ho' hco hE hW ⟨hF.size,hF.defers,fun t=>.any _⟩ fun t ht=>?_);rw[←v1 t ht];exact hF.val t
  ·refine tT hT hft hd hm (E:=fun j=>listed.getD j true) hcl h1 h2 (by simpa using hqk) hrq (E':=fun j=>(listed.setIfInBounds q true).getD j true) hset hW hF fun a' w' S' γ' hE' hW' hF'=>?_
   refine ih (listed.setIfInBounds q true) S' γ' w' a' (by simp[hsz]) (by rw[hset,hk,Bool.or_false];simpa using Ne.symm hqk) ?_ ?_ (hE.trans hE') hW' hF'
   ·have:=gR (p:=fun i=>!listed.getD i true) (q:=fun i=>!(listed.setIfInBounds q true).getD i true) (List.range ops.size) (List.mem_range.mpr h1) (by simp[h2]) (by rw[hset];simp) (fun j hj=>by
     rw[hset]at hj;simp only[Bool.not_or,Bool.and_eq_true]at hj;exact hj.2)
    omega
   ·intro j oj hoj hj e he hb;rw[hset]at hj ⊢;simp only[Bool.or_eq_true,beq_iff_eq]at hj ⊢;rcases hj with hj|hj
    ·subst hj;exact .inr (hrq oj hoj e he hb)
    ·exact .inr (hcl j oj hoj hj e he hb)
def vl (C:Ctx) (R:Exit→AF→AM→Prop) (k:Nat) (al:List cZ) (free:List (Nat×Nat)) (hs:List (Nat×Hint)):Option (VC×List Prop×List dN×AF×AM)→Prop
 |some (vc,pr,fs,f1,μ1)=>aG vc∧aM pr∧match al[k]? with
  |some o=>o.guard=none∧∃g args v c Post,o.k= .callB g args∧bB hs k={val:=some v}∧aR f1 (kY args)=f1∧eQ C g (args.map (ev f1)) μ1 c Post∧(∀μ',Post μ'→R (.panic c) [] μ') ∧
    match cf (aj C) (aN C) (al.drop (k+1)) hs (k+1) [] [] (fs++[.big [] μ1.length]) (put f1 o.dst v) μ1 with
    |some (vc2,pr2,fs2,_,_)=>aG vc2∧aM pr2∧dV fs2 free=true
    |none=>False
  |none=>False
 |none=>False
variable {own:Nat→Bool} {n m:Nat} {R:Exit→AF→AM→Prop}
theorem zZ (k:Nat) {al:List cZ} {free:List (Nat×Nat)} (hs:List (Nat×Hint)) (h:vl C R k al free hs (cf (aj C) (aN C) (al.take k) hs 0 [] [] [] f μ)):Aw C own n m (.regionF al free) R f μ:=by
 intro c hc0;obtain⟨id,ops,rfl,hc,hd,rfl⟩:=lY hc0;unfold vl at h;split at h
 ·rename_i vc1 pr1 fs1 f1 μ1 he1;obtain⟨hvc1,hpr1,h⟩:=h;split at h
  ·rename_i op hop;obtain⟨hg,g,args,v,ch,Post,hk,hh,hst,hpan,hR,h⟩:=h;split at h
   ·rename_i vc2 pr2 fs2 f2 μ2 he2;obtain⟨hvc2,hpr2,hfree⟩:=h;intro w0 S γ w a hW hF;obtain⟨ea,hfa⟩:=ic (al.take k) 0 [] [] [] f μ he1;obtain⟨-,Fa,Ma,Va,a1,a2,a3,a4,a5⟩:=b6 (al.take k) 0 [] [] f μ vc1 pr1 f1 μ1 ea hvc1 hpr1;obtain⟨eb,hfb⟩:=ic (al.drop (k+1)) (k+1) [] [] _ _ μ1 he2;obtain⟨-,Fb,Mb,Vb,b1,b2,b3,b4,b5⟩:=b6 (al.drop (k+1)) (k+1) [] [] _ μ1 vc2 pr2 f2 μ2 eb hvc2 hpr2;have hfa:=hfa Fa Ma Va a1 a2 fun j ao hao=>by
     obtain⟨vcj,prj,k1,k2,k3,k4⟩:=a5 j ao hao;exact⟨vcj,prj,k1,k4⟩
    have hfb:=hfb Fb Mb Vb b1 b2 fun j ao hao=>by
     obtain⟨vcj,prj,k1,k2,k3,k4⟩:=b5 j ao hao;exact⟨vcj,prj,k1,k4⟩
    obtain⟨hl,hat⟩:=dA hc;replace hl:al.length=ops.size:=hl.trans (Array.length_toList);have hkl:k<al.length:=(List.getElem?_eq_some_iff.mp hop).1;have hlt:(al.take k).length=k:=by rw[List.length_take];omega
    rw[Nat.zero_add,hlt]at a3 a4;let F:Nat→AF:=fun j=>if j≤k then Fa j else Fb j
    let M:Nat→AM:=fun j=>if j≤k then Ma j else Mb j
    let V:Nat→AV:=fun j=>if j<k then Va j else if j=k then v else Vb j
    have hFk:F k=f1:=by show(if k≤k then Fa k else Fb k)=f1;rw[if_pos (Nat.le_refl _),a3]
    have hMk:M k=μ1:=by show(if k≤k then Ma k else Mb k)=μ1;rw[if_pos (Nat.le_refl _),a4]
    have hFk1:F (k+1)=put f1 op.dst v:=by show(if k+1≤k then Fa (k+1) else Fb (k+1))=_;rw[if_neg (by omega),b1]
    have hMk1:M (k+1)=μ1:=by show(if k+1≤k then Ma (k+1) else Mb (k+1))=_;rw[if_neg (by omega),b2]
    have hgk:al.getD k default=op:=by rw[List.getD,hop];rfl
    have hevk:cd (aj C) (aN C) true true (F k) (M k) op (bB hs k)=some ([],conds true f1 (kY args)++[aN C g (args.map (ev f1)) μ1 v μ1],v,μ1):=by
     have hb:kX μ1 {val:=some v}=μ1:=by simp[kX,rq]
     rw[hFk,hMk,hh];unfold cd;simp only[hg,hk,tmpsOf,bI,hst,hb];rfl
    have hT:nK C n own ops al hs F M V (fun j=>j==k):=⟨hl,fun j hj=>by
     have ho:ops[j]?=some ops[j]:=by simp[hj]
     obtain⟨ao,hao,hco⟩:=hat j ops[j] (by rw[Array.getElem?_toList];exact ho);have hgj:al.getD j default=ao:=by rw[List.getD,hao];rfl
     rcases Nat.lt_trichotomy j k with hjk|hjk|hjk
     ·obtain⟨vcj,prj,k1,k2,k3,k4⟩:=a5 j ao (by rw[List.getElem?_take,if_pos hjk];exact hao);rw[Nat.zero_add]at k1 k4;refine⟨_,vcj,prj,ho,by rw[hgj];exact hco,?_,fun _=>k2,fun _=>k3,?_⟩
      ·show cd _ _ true true (if j≤k then Fa j else Fb j) (if j≤k then Ma j else Mb j) _ _=some (vcj,prj,(if j<k then Va j else if j=k then v else Vb j),(if j+1≤k then Ma (j+1) else Mb (j+1)));rw[if_pos (by omega),if_pos (by omega),if_pos hjk,if_pos (by omega),hgj];exact k1
      ·show(if j+1≤k then Fa (j+1) else Fb (j+1))=put (if j≤k then Fa j else Fb j) _ (if j<k then Va j else if j=k then v else Vb j);rw[if_pos (by omega),if_pos (by omega),if_pos hjk,hgj];exact k4
     ·subst hjk;rw[hop]at hao;injection hao with hao
      subst hao;have hVj:V j=v:=by show(if j<j then Va j else if j=j then v else Vb j)=v;rw[if_neg (by omega),if_pos rfl]
      refine⟨_,[],conds true f1 (kY args)++[aN C g (args.map (ev f1)) μ1 v μ1],ho,by rw[hgj];exact hco,?_,(fun h=>by simp at h),(fun h=>by simp at h),?_⟩
      ·rw[hgj,hevk,hMk1,hVj]
      ·rw[hVj,hgj,hFk1,hFk]
     ·obtain⟨d,rfl⟩:∃d,j=k+1+d:=⟨j-(k+1),by omega⟩
      obtain⟨vcj,prj,k1,k2,k3,k4⟩:=b5 d ao (by rw[List.getElem?_drop];exact hao);refine⟨_,vcj,prj,ho,by rw[hgj];exact hco,?_,fun _=>k2,fun _=>k3,?_⟩
      ·show cd _ _ true true (if k+1+d≤k then Fa (k+1+d) else Fb (k+1+d)) (if k+1+d≤k then Ma (k+1+d) else Mb (k+1+d)) _ _=some (vcj,prj,(if k+1+d<k then Va (k+1+d) else if k+1+d=k then v else Vb (k+1+d)),(if k+1+d+1≤k then Ma (k+1+d+1) else Mb (k+1+d+1)));rw[if_neg (by omega),if_neg (by omega),if_neg (by omega),if_neg (by omega),if_neg (by omega),hgj];exact k1
      ·show(if k+1+d+1≤k then Fa (k+1+d+1) else Fb (k+1+d+1))=put (if k+1+d≤k then Fa (k+1+d) else Fb (k+1+d)) _ (if k+1+d<k then Va (k+1+d) else if k+1+d=k then v else Vb (k+1+d));rw[if_neg (by omega),if_neg (by omega),if_neg (by omega),if_neg (by omega),hgj];exact k4⟩
    have hld:(al.drop (k+1)).length=ops.size-(k+1):=by rw[List.length_drop,hl]
    have hfk:cF fs2 k= .big [] μ1.length:=by
     rw[gS,hfb,hfa,List.nil_append,List.getD,List.getElem?_append_left (by simp;omega),List.getElem?_append_right (by simp;omega)];simp[hlt]
    have hft:∀j,j<ops.size→cF fs2 j=a8 (M j) (aR (F j) (tmpsOf (al.getD j default).k)) (bB hs j) (al.getD j default).k:=fun j hj=>by
     rcases Nat.lt_trichotomy j k with hjk|hjk|hjk
     ·rw[gS,hfb,hfa,List.nil_append,List.getD,List.getElem?_append_left (by simp;omega),List.getElem?_append_left (by simp;omega),List.getElem?_map,List.getElem?_range (by omega)];simp only[Option.map_some,Option.getD_some,Nat.zero_add];have e1:(al.take k).getD j default=al.getD j default:=by rw[List.getD,List.getElem?_take,if_pos hjk,List.getD]
      rw[e1];show _=a8 (if j≤k then Ma j else Mb j) (aR (if j≤k then Fa j else Fb j) _) _ _;rw[if_pos (by omega),if_pos (by omega)]
     ·subst hjk;rw[hfk,hgk,hMk,hh,hk];rfl
     ·obtain⟨d,rfl⟩:∃d,j=k+1+d:=⟨j-(k+1),by omega⟩
      rw[gS,hfb,hfa,List.nil_append,List.getD,List.getElem?_append_right (by simp;omega)];simp only[List.length_append,List.length_map,List.length_range,hlt,List.length_cons,List.length_nil,Nat.zero_add];rw[show k+1+d-(k+1)=d by omega,List.getElem?_map,List.getElem?_range (by omega)];simp only[Option.map_some,Option.getD_some];have e1:(al.drop (k+1)).getD d default=al.getD (k+1+d) default:=by rw[List.getD,List.getElem?_drop,List.getD]
      rw[e1];show _=a8 (if k+1+d≤k then Ma (k+1+d) else Mb (k+1+d)) (aR (if k+1+d≤k then Fa (k+1+d) else Fb (k+1+d)) _) _ _;rw[if_neg (by omega),if_neg (by omega)]
    simp only[om,Bool.and_eq_true]at hd;have hdep:∀p q,p<q→q<ops.size→lV (al.getD p default) (al.getD q default)=true→((dW ops.toList []).getD q 0).testBit p=true:=fun p q hpq hq hdp=>by
     have h6:=List.all_eq_true.mp hd.2 q (List.mem_range.mpr (by omega));have h7:=List.all_eq_true.mp h6 p (List.mem_range.mpr hpq);rw[hdp]at h7;simpa using h7
    have hm:∀p q,p<q→q<ops.size→mE (al.getD p default) (al.getD q default)=true→((dW ops.toList []).getD q 0).testBit p=true∨bP (cF fs2 p) (cF fs2 q)=true:=fun p q hpq hq hdp=>by
     cases hb:((dW ops.toList []).getD q 0).testBit p with
     |true=>exact .inl rfl
     |false=>exact .inr (kn hfree p q (iU hpq (by omega) hdp hb))
    obtain⟨hW1,hE1⟩:=hW.drew;have hF0:F 0=f:=by show(if 0≤k then Fa 0 else Fb 0)=f;rw[if_pos (Nat.zero_le _),a1]
    have hM0:M 0=μ:=by show(if 0≤k then Ma 0 else Mb 0)=μ;rw[if_pos (Nat.zero_le _),a2]
    refine wp_region_any C.mixed (yM (m:=m) (R:=R) hT (by omega) hft hd.1 hdep hm (by rw[hfk];rfl) (by rw[hgk,hk];rfl) ?_ ops.size (Array.replicate ops.size false) S γ w.drew a (by simp) (by simp[Array.getD];omega) (Nat.le_trans (List.countP_le_length) (by simp)) ?_ hE1 ?_ ?_)
    ·intro o S1 γ1 w1 a1 K' ho hco hE hW1 hF1 hrd;rw[hgk]at hco hrd;rw[hMk]at hW1;rw[hFk]at hrd;obtain⟨ow,hkk,-,-,-⟩:=bG (C:=C) hco;rw[hk]at hkk;have hgo:o.guard=none:=by
      cases hgu:o.guard with
      |none=>rfl
      |some gb =>
       obtain⟨g0,b0⟩:=gb;obtain⟨t0,-,h0⟩:=ig hco hgu;rw[hg]at h0;cases h0
     have hwant:Region.wanted o (yielded ops a1.tmps)=true:=by unfold Region.wanted;rw[hgo]
     unfold kj;rw[if_pos hwant];refine yL (f:=f1) rfl hW1 hkk (fun t ht=>hrd t (by simp only[dQ,hg,hk,tmpsOf];exact ht)) hpan fun w' S' γ' μ' hE' hW' hP=>?_
     have hE2:=hE.trans hE';exact⟨S',γ',[],μ',hE2.toM m,hW',⟨hF1.size,hF1.defers,fun _=>.any _⟩,hR μ' hP⟩
    ·intro j o ho hj;have hjs:j<ops.size:=by
      apply Classical.byContradiction;intro hn;rw[Array.getElem?_eq_none (by omega)]at ho;cases ho
     simp[Array.getD,hjs]at hj
    ·have:∀i,i≤ops.size→de (M 0) al (cF fs2) M (fun j=>(Array.replicate ops.size false).getD j true) i=M 0:=by
      intro i;induction i with
      |zero=>intro _;rfl
      |succ i ih =>
       intro hi;have:(Array.replicate ops.size false).getD i true=false:=by simp[Array.getD];omega
       rw[de,this,Bool.false_and,cond_false,ih (by omega)]
     rw[this _ (Nat.le_refl _),hM0];exact hW1
    ·have:∀i,i≤ops.size→GF (F 0) al V (fun j=>(Array.replicate ops.size false).getD j true) i=F 0:=by
      intro i;induction i with
      |zero=>intro _;rfl
      |succ i ih =>
       intro hi;have:(Array.replicate ops.size false).getD i true=false:=by simp[Array.getD];omega
       rw[GF,this,cond_false,ih (by omega)]
     rw[this _ (Nat.le_refl _),hF0];exact hF.drew hE1
   ·exact h.elim
  ·exact h.elim
 ·exact h.elim
end
end
section
structure yN (σ:Type) where
 P:Program
 mixed:P.follows .mixedOrders=true
 D:List Deferred
 E:σ→World→Prop
 hE:∀k (w w':World),E k w→Below w.heap.size w w'→E k w'
 Fo:Nat→Prop
def yN.C {σ:Type} (F:yN σ) (k:σ):Ctx:=⟨F.P,F.E k,F.hE k,F.mixed,F.D⟩
structure vm (Fo:Nat→Prop) (w w':World):Prop where
 os:w'.os=w.os
 tape:w'.tape=w.tape
 output:w'.output=w.output
 size:w'.heap.size=w.heap.size
 block:∀g,¬Fo g→w'.heap[g]?=w.heap[g]?
theorem vm.refl (Fo:Nat→Prop) (w:World):vm Fo w w:=⟨rfl,rfl,rfl,rfl,fun _ _=>rfl⟩
theorem vm.trans {Fo:Nat→Prop} {a b c:World} (h:vm Fo a b) (k:vm Fo b c):vm Fo a c :=
 ⟨k.os.trans h.os,k.tape.trans h.tape,k.output.trans h.output,k.size.trans h.size,fun g hg=>(k.block g hg).trans (h.block g hg)⟩
def NS (Fo:Nat→Prop) (w0:World) (S:Nat→Prop):Prop:=∀g,Fo g→g<w0.heap.size∧¬S g
section
variable {σ:Type} {F:yN σ} {own:Nat→Bool} {n m:Nat} {R:σ→Exit→AF→AM→Prop} {k:σ} {f:AF} {μ:AM}
def sd (F:yN σ) (n m:Nat) (w0 w:World) (S:Nat→Prop) (γ:Gh) (R:σ→Exit→AF→AM→Prop):Exit→Act→World→Prop :=
 fun x a' w'=>∃k' w0' S' γ' f' μ',vm F.Fo w0 w0'∧jP m w S γ w' S' γ'∧Wd (F.C k') w0' S' γ' μ' w'∧FR F.D n w' S' γ' f' a'∧NS F.Fo w0' S'∧R k' x f' μ'
def Jw (F:yN σ) (n m:Nat) (c:Code) (R:σ→Exit→AF→AM→Prop) (k:σ) (f:AF) (μ:AM):Prop :=
 ∀(w0:World) (S:Nat→Prop) (γ:Gh) (w:World) (a:Act),Wd (F.C k) w0 S γ μ w→FR F.D n w S γ f a→NS F.Fo w0 S→c.wp F.P (sd F n m w0 w S γ R) a w
def xZ (F:yN σ) (own:Nat→Bool) (n m:Nat) (x:ay) (R:σ→Exit→AF→AM→Prop) (k:σ) (f:AF) (μ:AM):Prop :=
 ∀c,comp F.P own n c=some x→Jw F n m c R k f μ
def dw (K:σ→AF→AM→Prop) (R:σ→Exit→AF→AM→Prop):σ→Exit→AF→AM→Prop
 |k,.normal,f,μ=>K k f μ
 |k,e,f,μ=>R k e f μ
def nd (id:Nat) (R:σ→Exit→AF→AM→Prop):σ→Exit→AF→AM→Prop
 |k,.exit i,f,μ=>bif Nat.beq i id then R k .normal f μ else R k (.exit i) f μ
 |k,e,f,μ=>R k e f μ
theorem sd.ext {w0 w0' w w1:World} {S S1:Nat→Prop} {γ γ1:Gh} {x:Exit} {a':Act} {w':World} (ho:vm F.Fo w0 w0') (hE:jP m w S γ w1 S1 γ1) (h:sd F n m w0' w1 S1 γ1 R x a' w'):sd F n m w0 w S γ R x a' w':=by
 obtain⟨k',w2,S',γ',f',μ',h1,h2,h3,h4,h5,h6⟩:=h;exact⟨k',w2,S',γ',f',μ',ho.trans h1,hE.trans h2,h3,h4,h5,h6⟩
theorem NS.aD {C:Ctx} {Fo:Nat→Prop} {w0 w w':World} {S S':Nat→Prop} {γ γ':Gh} {μ:AM} (hn:NS Fo w0 S) (hW:Wd C w0 S γ μ w) (hE:jP m w S γ w' S' γ'):NS Fo w0 S':=fun g hg=>by
 obtain⟨h1,h2⟩:=hn g hg;refine⟨h1,fun hs=>?_⟩;rcases hE.more g hs with h|⟨b,e,hb,he⟩|h
 ·exact h2 h
 ·have hbl:b<μ.length:=by
   apply Classical.byContradiction;intro hnb;rw[hW.mem.none b (by omega)]at hb;cases hb
  obtain⟨e0,q1,-,-,-,q5,-⟩:=hW.mem.B7 (List.getElem?_eq_getElem hbl);rw[q1]at hb;injection hb with hb
  subst hb;omega
 ·have:=hW.below.size;omega
theorem dC {x:ay} (h:Aw (F.C k) own n m x (R k) f μ):xZ F own n m x R k f μ:=by
 intro c hc w0 S γ w a hW hF hN;refine wp_mono (h c hc w0 S γ w a hW hF) fun e a' w' hh=>?_
 obtain⟨S',γ',f',μ',h1,h2,h3,h4⟩:=hh;exact⟨k,w0,S',γ',f',μ',vm.refl _ _,h1.z,h2,h3,hN.aD hW h1.z,h4⟩
theorem mb {P:Program} {c:Code} {x y:ay} (hc:comp P own n c=some (.seq x y)):∃a b,c= .seq a b∧comp P own n a=some x∧comp P own n b=some y:=by
 cases c<;>simp only[comp]at hc;case seq a b =>
  split at hc
  ·rename_i x' y' h1 h2;injection hc with hc;injection hc with e1 e2
   subst e1 e2;exact⟨a,b,rfl,h1,h2⟩
  ·cases hc
 all_goals repeat' split at hc
 all_goals first
  |(cases hc;done)
  |(injection hc with hc;cases hc;done)
  |(rcases ec hc with hc|hc<;>cases hc)
theorem eN {x y:ay} (h:xZ F own n m x (dw (fun k f μ=>xZ F own n m y R k f μ) R) k f μ):xZ F own n m (.seq x y) R k f μ:=by
 intro c hc w0 S γ w a hW hF hN;obtain⟨c1,c2,rfl,h1,h2⟩:=mb hc;refine wp_seq (wp_mono (h c1 h1 w0 S γ w a hW hF hN) fun e a' w' hE=>?_);obtain⟨k',w2,S',γ',f',μ',g0,g1,g2,g3,g4,g5⟩:=hE;cases e with
 |normal=>exact wp_mono (g5 c2 h2 w2 S' γ' w' a' g2 g3 g4) fun e a'' w'' hh=>hh.ext g0 g1
 |_=>exact⟨k',w2,S',γ',f',μ',g0,g1,g2,g3,g4,g5⟩
theorem lv {o:bY} {x y:ay} {t:Bool} (ho:ev f o= .pv (.bool t)) (h:xZ F own n m (bif t then x else y) R k f μ):xZ F own n m (.cond o x y) R k f μ:=by
 intro c hc w0 S γ w a hW hF hN;have hcs:∃q a b,c= .cond q a b∧aK q=some o∧comp F.P own n a=some x∧comp F.P own n b=some y:=by
  cases c<;>simp only[comp]at hc;case cond q a b =>
   split at hc
   ·rename_i o' x' y' h0 h1 h2;injection hc with hc;injection hc with e0 e1 e2
    subst e0 e1 e2;exact⟨q,a,b,rfl,h0,h1,h2⟩
   ·cases hc
  all_goals repeat' split at hc
  all_goals first
   |(cases hc;done)
   |(injection hc with hc;cases hc;done)
   |(rcases ec hc with hc|hc<;>cases hc)
 obtain⟨q,c1,c2,rfl,h0,h1,h2⟩:=hcs;have hv:=aY (w:=w) (S:=S) (γ:=γ) (f:=f) (a:=a) h0 fun t _=>hF.val t
 rw[ho]at hv;have hv:=cV hv;refine wp_cond hv ?_;cases t with
 |true=>exact h c1 h1 w0 S γ w a hW hF hN
 |false=>exact h c2 h2 w0 S γ w a hW hF hN
theorem ud {id:Nat} {x:ay} (h:xZ F own n m x (nd id R) k f μ):xZ F own n m (.block id x) R k f μ:=by
 intro c hc w0 S γ w a hW hF hN;have hcs:∃a,c= .block id a∧comp F.P own n a=some x:=by
  cases c<;>simp only[comp]at hc;case block i a =>
   split at hc
   ·rename_i x' h1;injection hc with hc;injection hc with e0 e1
    subst e0 e1;exact⟨a,rfl,h1⟩
   ·cases hc
  all_goals repeat' split at hc
  all_goals first
   |(cases hc;done)
   |(injection hc with hc;cases hc;done)
   |(rcases ec hc with hc|hc<;>cases hc)
 obtain⟨c1,rfl,h1⟩:=hcs;refine wp_block (wp_mono (h c1 h1 w0 S γ w a hW hF hN) fun e a' w' hE=>?_);obtain⟨k',w2,S',γ',f',μ',g0,g1,g2,g3,g4,g5⟩:=hE;cases e with
 |exit i =>
  simp only[nd]at g5;simp only[Exit.inBlock];by_cases hi:i=id
  ·subst hi;rw[if_pos rfl];rw[Nat.beq_refl,cond_true]at g5;exact⟨k',w2,S',γ',f',μ',g0,g1,g2,g3,g4,g5⟩
  ·rw[if_neg hi];rw[tY hi,cond_false]at g5;exact⟨k',w2,S',γ',f',μ',g0,g1,g2,g3,g4,g5⟩
 |_=>exact⟨k',w2,S',γ',f',μ',g0,g1,g2,g3,g4,g5⟩
theorem CF {x:ay} (I:Nat→σ→AF→AM→Prop) (hstep:∀j k f μ,I j k f μ→xZ F own n m x (dw (fun k' f' μ'=>∃i,i<j∧I i k' f' μ') R) k f μ) (j:Nat) (h:I j k f μ):xZ F own n m (.loop x) R k f μ:=by
 intro c hc w0 S γ w a hW hF hN;have hcs:∃a,c= .loop a∧comp F.P own n a=some x:=by
  cases c<;>simp only[comp]at hc;case loop a =>
   split at hc
   ·rename_i x' h1;injection hc with hc;injection hc with e1
    subst e1;exact⟨a,rfl,h1⟩
   ·cases hc
  all_goals repeat' split at hc
  all_goals first
   |(cases hc;done)
   |(injection hc with hc;cases hc;done)
   |(rcases ec hc with hc|hc<;>cases hc)
 obtain⟨c1,rfl,h1⟩:=hcs;have key:∀(j:Nat) (k1:σ) (f1:AF) (μ1:AM) (w2:World) (S1:Nat→Prop) (γ1:Gh) (w1:World) (a1:Act),I j k1 f1 μ1→vm F.Fo w0 w2→jP m w S γ w1 S1 γ1→Wd (F.C k1) w2 S1 γ1 μ1 w1→FR F.D n w1 S1 γ1 f1 a1→NS F.Fo w2 S1→Code.rounds F.P c1 (sd F n m w0 w S γ R) (j+1) a1 w1:=by
  intro j;induction j using Nat.strongRecOn with
  |_ j ih =>
   intro k1 f1 μ1 w2 S1 γ1 w1 a1 hI hO hE hW1 hF1 hN1;rw[rounds_succ];refine wp_mono (hstep j k1 f1 μ1 hI c1 h1 w2 S1 γ1 w1 a1 hW1 hF1 hN1) fun e a' w' hh=>?_
   obtain⟨k',w3,S',γ',f',μ',g0,g1,g2,g3,g4,g5⟩:=hh;cases e with
   |normal =>
    obtain⟨i,hi,hIi⟩:=g5;exact mR (by omega) (ih i hi k' f' μ' w3 S' γ' w' a' hIi (hO.trans g0) (hE.trans g1) g2 g3 g4)
   |_=>exact⟨k',w3,S',γ',f',μ',hO.trans g0,hE.trans g1,g2,g3,g4,g5⟩
 exact wp_loop_rounds (j+1) (key j k f μ w0 S γ w a h (vm.refl _ _) (jP.refl _ _ _ _) hW hF hN)
theorem Bb (g:AF) {x:ay} (hs:Sub g f) (h:xZ F own n m x R k g μ):xZ F own n m x R k f μ:=by
 intro c hc w0 S γ w a hW hF hN;refine h c hc w0 S γ w a hW ⟨hF.size,hF.defers,fun t=>?_⟩ hN;rcases uY hs t with h|h
 ·rw[h];exact .any _
 ·rw[h];exact hF.val t
end
end
section
theorem ue {P:Program} {row:String} {args:Array Value} {w:World} {R:Value→World→Prop} (h:Rows P row args w R):RowsIn Fence.wide 0 P row args w R:=fun c cs _=>by
 obtain⟨v,w',h1,h2⟩:=h c cs;exact⟨v,w',h1,StepsIn.mono (fun m _=>fenced_wide P m) (StepsIn.of_steps h2)⟩
theorem se {P:Program} {o:Oper} {a:Act} {w:World} {K:Act→World→Prop} {Q:Exit→Act→World→Prop} (h:o.wp P a w K Q):o.wpIn Fence.wide 1 P a w K Q:=by
 unfold Oper.wpIn;refine⟨fun _ _=>trivial,?_⟩;show o.uponIn Fence.wide 1 P a K Q ((execOp a.eval o).run P w);unfold Oper.wp at h;generalize (execOp a.eval o).run P w=r at *;cases r with
 |ok x w' =>
  cases x with
  |enter g args=>exact⟨(fun h=>by cases h),callsIn_wide.mpr h⟩
  |row row args=>exact⟨(fun h=>by cases h),ue h⟩
  |_=>simp only[Oper.upon,Oper.uponIn]at h ⊢<;>first|exact h|exact h.elim
 |halt x w'=>cases x<;>simp only[Oper.upon,Oper.uponIn]at h ⊢<;>first|exact h|exact h.elim
theorem uf {P:Program} {ops:Array Oper} {o:Oper} {i:Nat} {a:Act} {w:World} {K:Act→World→Prop} {Q:Exit→Act→World→Prop} (ho:ops[i]?=some o) (h:kj P ops o a w K Q):wpOpIn Fence.wide 1 P ops Q i K a w:=by
 unfold wpOpIn;rw[ho];simp only;unfold kj at h;split
 ·rename_i hw;rw[if_pos hw]at h;exact se h
 ·rename_i hw;rw[if_neg hw]at h;exact⟨fun _ _=>trivial,h⟩
def Hv {σ:Type} (F:yN σ) (g:FuncId) (as:List AV) (k:σ) (μ:AM) (r:AV) (k':σ) (μ':AM):Prop :=
 ep F.P g=true∧∀(w0:World) (S:Nat→Prop) (γ:Gh) (w:World) (vs:List Value),Wd (F.C k) w0 S γ μ w→PW (VR w S γ) as vs→NS F.Fo w0 S →
  Calls F.P g vs.toArray w fun e w'=>∃v w0' S' γ',e= .returned v∧vm F.Fo w0 w0'∧kE w S γ w' S' γ'∧Wd (F.C k') w0' S' γ' μ' w'∧NS F.Fo w0' S'∧VR w' S' γ' r v
def Bc {σ:Type} (F:yN σ) (l:Nat) (as:List AV) (k:σ) (μ:AM) (r:AV) (k':σ) (μ':AM):Prop :=
 ∀(w0:World) (S:Nat→Prop) (γ:Gh) (w:World) (vs:List Value),Wd (F.C k) w0 S γ μ w→PW (VR w S γ) as vs→NS F.Fo w0 S →
  YieldAt Fence.wide 0 F.P l vs.toArray w fun e w'=>∃v w0' S' γ',e= .returned v∧vm F.Fo w0 w0'∧kE w S γ w' S' γ'∧Wd (F.C k') w0' S' γ' μ' w'∧NS F.Fo w0' S'∧VR w' S' γ' r v
section
variable {σ:Type} {F:yN σ} {own:Nat→Bool} {n m:Nat} {R:σ→Exit→AF→AM→Prop} {k k2:σ} {f:AF} {μ:AM} {ops:Array Oper}
def CG (F:yN σ) (own:Nat→Bool) (n:Nat) (ops:Array Oper) (op:cZ) (k:σ) (f:AF) (μ:AM) (v:AV) (k':σ) (μ':AM):Prop :=
 ∀(o:Oper) (w0:World) (S:Nat→Prop) (γ:Gh) (w:World) (a:Act) (K':Act→World→Prop) (Q:Exit→Act→World→Prop),eo F.P own n ops o=some op→Wd (F.C k) w0 S γ μ w→FR F.D n w S γ f a→NS F.Fo w0 S →
  (∀u w0' w' S' γ',vm F.Fo w0 w0'→kE w S γ w' S' γ'→Wd (F.C k') w0' S' γ' μ' w'→NS F.Fo w0' S'→VR w' S' γ' v u→K' (a.put o.dst u) w')→o.wpIn Fence.wide 1 F.P a w K' Q
theorem CH {id j:Nat} {al:List cZ} {cm cm2:Bool} {hs hs2:List (Nat×Hint)} {vc vc2:VC} {pr pr2:List Prop} {f1 f2:AF} {μ1 μ2 μ3:AM} {op:cZ} {v:AV} (hc:dZ F.P own n ops ops.toList=some al)
  (hk:al[j]?=some op) (hg:op.guard=none) (he:bV (aj (F.C k)) (aN (F.C k)) cm false (al.take j) hs 0 [] [] f μ=some (vc,pr,f1,μ1)) (hvc:aG vc) (hpr:aM pr)
  (hop:CG F own n ops op k f1 μ1 v k2 μ2)
  (he2:bV (aj (F.C k2)) (aN (F.C k2)) cm2 false (al.drop (j+1)) hs2 0 [] [] (put f1 op.dst v) μ2=some (vc2,pr2,f2,μ3)) (hvc2:aG vc2) (hpr2:aM pr2)
  (hR:R k2 .normal f2 μ3):Jw F n m (.region id ops false) R k f μ:=by
 intro w0 S γ w a hW hF hN;rw[←wpIn_wide (n:=1)];refine wpIn_region ?_;obtain⟨-,F1,M1,V1,h1,h2,h3,h4,h5⟩:=b6 (al.take j) 0 [] [] f μ vc pr f1 μ1 he hvc hpr;obtain⟨-,F2,M2,V2,q1,q2,q3,q4,q5⟩:=b6 (al.drop (j+1)) 0 [] [] (put f1 op.dst v) μ2 vc2 pr2 f2 μ3 he2 hvc2 hpr2;obtain⟨hl,hat⟩:=dA hc;replace hl:al.length=ops.size:=hl.trans (Array.length_toList);have hjl:j<al.length:=(List.getElem?_eq_some_iff.mp hk).1;have hlt:(al.take j).length=j:=by rw[List.length_take];omega
 have hld:(al.drop (j+1)).length=ops.size-(j+1):=by rw[List.length_drop,hl]
 rw[Nat.zero_add,hlt]at h3 h4;rw[Nat.zero_add,hld]at q3 q4;have suf:∀(l i:Nat),i+l=ops.size-(j+1)→∀(w2:World) (S1:Nat→Prop) (γ1:Gh) (w1:World) (a1:Act),vm F.Fo w0 w2→jP m w S γ w1 S1 γ1→Wd (F.C k2) w2 S1 γ1 (M2 i) w1→FR F.D n w1 S1 γ1 (F2 i) a1→NS F.Fo w2 S1 →
   wpOpsIn Fence.wide 1 F.P ops (sd F n m w0 w S γ R) (List.range' (j+1+i) l) a1 w1:=by
  intro l;induction l with
  |zero =>
   intro i hi w2 S1 γ1 w1 a1 hO hE hW1 hF1 hN1;simp only[List.range'_zero,wpOpsIn];obtain rfl:i=ops.size-(j+1):=by omega
   rw[q4]at hW1;rw[q3]at hF1;exact⟨k2,w2,S1,γ1,f2,μ3,hO,hE,hW1,hF1,hN1,hR⟩
  |succ l ih =>
   intro i hi w2 S1 γ1 w1 a1 hO hE hW1 hF1 hN1;rw[List.range'_succ,wpOpsIn_cons];have his:j+1+i<ops.size:=by omega
   have ho:ops[j+1+i]?=some ops[j+1+i]:=by simp[his]
   obtain⟨ao,hao,hco⟩:=hat (j+1+i) ops[j+1+i] (by rw[Array.getElem?_toList];exact ho);obtain⟨vcj,prj,k1,k2',k3,k4⟩:=q5 i ao (by rw[List.getElem?_drop];exact hao);rw[Nat.zero_add]at k1 k4;obtain⟨-,-,hdst,hlt',-⟩:=bG (C:=F.C k) hco;refine uf ho (bK (C:=F.C k2) hW1 hco k1 k2' k3 (fun t _=>hF1.val t) fun u w3 S2 γ2 hE2 hW2 hv=>?_);have:=ih (i+1) (by omega) w2 S2 γ2 w3 (a1.put (ops[j+1+i]).dst u) hO (hE.trans (hE2.z.toM m)) hW2 (by
    rw[k4,hdst];exact(hF1.ext hE2).put hv hlt') (hN1.aD hW1 (hE2.z.toM 0))
   rw[show j+1+(i+1)=j+1+i+1 by omega]at this;exact this
 have pre:∀(l i:Nat),i+l=j→∀(S1:Nat→Prop) (γ1:Gh) (w1:World) (a1:Act),jP m w S γ w1 S1 γ1→Wd (F.C k) w0 S1 γ1 (M1 i) w1→FR F.D n w1 S1 γ1 (F1 i) a1→NS F.Fo w0 S1 →
   wpOpsIn Fence.wide 1 F.P ops (sd F n m w0 w S γ R) (List.range' i (ops.size-i)) a1 w1:=by
  intro l;induction l with
  |zero =>
   intro i hi S1 γ1 w1 a1 hE hW1 hF1 hN1;obtain rfl:i=j:=by omega
   rw[show ops.size-i=(ops.size-(i+1))+1 by omega,List.range'_succ,wpOpsIn_cons];have ho:ops[i]?=some ops[i]:=by simp[←hl,hjl]
   obtain⟨ao,hao,hco⟩:=hat i ops[i] (by rw[Array.getElem?_toList];exact ho);rw[hk]at hao;injection hao with hao
   subst hao;obtain⟨ow,hkk,hdst,hlt',-⟩:=bG (C:=F.C k) hco;have hgo:(ops[i]).guard=none:=by
    cases hgu:(ops[i]).guard with
    |none=>rfl
    |some gb =>
     obtain⟨g0,b0⟩:=gb;obtain⟨t0,-,h0⟩:=ig hco hgu;rw[hg]at h0;cases h0
   unfold wpOpIn;rw[ho];simp only;rw[if_pos (by unfold Region.wanted;rw[hgo])];rw[h4]at hW1;rw[h3]at hF1;refine hop _ w0 S1 γ1 w1 a1 _ _ hco hW1 hF1 hN1 fun u w0' w' S' γ' hO hE2 hW2 hN2 hv=>?_
   have:=suf (ops.size-(i+1)) 0 (by omega) w0' S' γ' w' (a1.put (ops[i]).dst u) hO (hE.trans (hE2.toM m)) (by rw[q2];exact hW2) (by
    rw[q1,hdst];exact(hF1.uN hE2).put hv hlt') hN2
   exact this
  |succ l ih =>
   intro i hi S1 γ1 w1 a1 hE hW1 hF1 hN1;have his:i<ops.size:=by omega
   rw[show ops.size-i=(ops.size-(i+1))+1 by omega,List.range'_succ,wpOpsIn_cons];have ho:ops[i]?=some ops[i]:=by simp[his]
   obtain⟨ao,hao,hco⟩:=hat i ops[i] (by rw[Array.getElem?_toList];exact ho);obtain⟨vcj,prj,k1,k2',k3,k4⟩:=h5 i ao (by rw[List.getElem?_take,if_pos (by omega)];exact hao);rw[Nat.zero_add]at k1 k4;obtain⟨-,-,hdst,hlt',-⟩:=bG (C:=F.C k) hco;refine uf ho (bK (C:=F.C k) hW1 hco k1 k2' k3 (fun t _=>hF1.val t) fun u w2 S2 γ2 hE2 hW2 hv=>?_);refine ih (i+1) (by omega) S2 γ2 w2 _ (hE.trans (hE2.z.toM m)) hW2 ?_ (hN1.aD hW1 (hE2.z.toM 0));rw[k4,hdst];exact(hF1.ext hE2).put hv hlt'
 rw[List.range_eq_range'];exact pre j 0 (by omega) S γ w a (jP.refl _ _ _ _) (by rw[h2];exact hW) (by rw[h1];exact hF) hN
theorem CI {op:cZ} {g:FuncId} {as:List AV} {f1:AF} {μ1 μ2:AM} {v:AV} (ht:jz f1 op.k=some (g,as)) (h:Hv F g as k μ1 v k2 μ2):CG F own n ops op k f1 μ1 v k2 μ2:=by
 intro o w0 S γ w a K' Q hco hW hF hN hK;obtain⟨ow,hkk,hdst,-,-⟩:=bG (C:=F.C k) hco;have hf:∀t,VR w S γ (get f1 t) (a.eval (.tmp t)):=hF.val;have fin:∀{us:List Value} {first args caps:Array Value},PW (VR w S γ) as us→us.toArray=first++args++caps→Calls F.P g (first++args++caps) w fun e w'=>∃u,e= .returned u∧∃w0' S' γ',vm F.Fo w0 w0'∧kE w S γ w' S' γ'∧Wd (F.C k2) w0' S' γ' μ2 w'∧NS F.Fo w0' S'∧VR w' S' γ' v u:=fun {us first args caps} hv hus=>by
  rw[←hus];refine(h.2 w0 S γ w us hW hv hN).mono fun e w' hh=>?_
  obtain⟨u,w0',S',γ',h1,h2,h3,h4,h5,h6⟩:=hh;exact⟨u,h1,w0',S',γ',h2,h3,h4,h5,h6⟩
 have hK':∀u w',(∃w0' S' γ',vm F.Fo w0 w0'∧kE w S γ w' S' γ'∧Wd (F.C k2) w0' S' γ' μ2 w'∧NS F.Fo w0' S'∧VR w' S' γ' v u)→K' (a.put o.dst u) w':=fun u w' ⟨w0',S',γ',h2,h3,h4,h5,h6⟩=>hK u w0' w' S' γ' h2 h3 h4 h5 h6
 refine se ?_;revert hkk ht;generalize op.k=kk;intro ht hkk;cases kk with
 |call g' as' =>
  injection ht with ht
  injection ht with e1 e2
  subst e1 e2;obtain⟨c,hop,hcc⟩:=eL hkk rfl;rcases eM hcc rfl with⟨g',as',hc1,hc2,he'⟩|⟨t,as',hc1,hc2,he'⟩
  ·injection he' with e1 e2
   subst e1 e2;have hv:=gD (w:=w) (S:=S) (γ:=γ) (f:=f1) (a:=a) hc2 fun t _=>hf t
   exact kH (C:=F.C k) (first:=#[]) (args:=c.args.map a.eval) (caps:=#[]) hop h.1 ⟨_,hc1,rfl⟩ rfl (fin hv (by simp[←Array.toList_map])) hK'
  ·cases he'
 |callv x as' =>
  obtain⟨c,hop,hcc⟩:=eL hkk rfl;rcases eM hcc rfl with⟨g',as',hc1,hc2,he'⟩|⟨t,as',hc1,hc2,he'⟩
  ·cases he'
  ·injection he' with e1 e2
   subst e1 e2;have hv:=gD (w:=w) (S:=S) (γ:=γ) (f:=f1) (a:=a) hc2 fun t _=>hf t
   have hx:=hf t;simp only[jz]at ht;split at ht
   ·rename_i g0 caps hg;injection ht with ht
    injection ht with e1 e2
    subst e1 e2;simp only[ev]at hg;rw[hg]at hx;generalize hxe:a.eval (.tmp t)=xv at hx;cases hx with
    |fn _ _ cs hl hat =>
     exact kH (C:=F.C k) (first:=#[]) (args:=c.args.map a.eval) (caps:=cs.toArray) hop h.1 ⟨_,hc1,hxe⟩ rfl (fin (hv.append ⟨hl,hat⟩) (by simp[←Array.toList_map])) hK'
   ·rename_i g0 first hg
    injection ht with ht
    injection ht with e1 e2
    subst e1 e2;simp only[ev]at hg;rw[hg]at hx;generalize hxe:a.eval (.tmp t)=xv at hx;cases hx with
    |bm _ _ cs hl hat =>
     exact kH (C:=F.C k) (first:=cs.toArray) (args:=c.args.map a.eval) (caps:=#[]) hop h.1 ⟨_,hc1,hxe⟩ rfl (fin (PW.append ⟨hl,hat⟩ hv) (by simp[←Array.toList_map])) hK'
   ·rename_i g0 x y hg;split at ht
    ·rename_i hxa hya;injection ht with ht
     injection ht with e1 e2
     subst e1 e2;simp only[ev]at hg;rw[hg]at hx;generalize hxe:a.eval (.tmp t)=xv at hx;obtain rfl:=fI hx;obtain rfl:x=#[]:=by cases x;simp only at hxa;subst hxa;rfl
     obtain rfl:y=#[]:=by cases y;simp only at hya;subst hya;rfl
     exact kH (C:=F.C k) (first:=#[]) (args:=c.args.map a.eval) (caps:=#[]) hop h.1 ⟨_,hc1,hxe⟩ rfl (fin hv (by simp[←Array.toList_map])) hK'
    ·cases ht
   ·cases ht
 |_=>cases ht
theorem Bd {op:cZ} {l:Nat} {x:bY} {as':List bY} {f1:AF} {μ1 μ2:AM} {v:AV} (hk:op.k= .callv x as') (hx:ev f1 x= .pv (.val (.func (.yield l) #[] #[]))) (h:Bc F l (as'.map (ev f1)) k μ1 v k2 μ2):CG F own n ops op k f1 μ1 v k2 μ2:=by
 intro o w0 S γ w a K' Q hco hW hF hN hK;obtain⟨ow,hkk,hdst,-,-⟩:=bG (C:=F.C k) hco;rw[hk]at hkk;obtain⟨c,hop,hcc⟩:=eL hkk rfl;rcases eM hcc rfl with⟨g',as2,hc1,hc2,he'⟩|⟨t,as2,hc1,hc2,he'⟩
 ·cases he'
 ·injection he' with e1 e2
  subst e1 e2;have hv:=gD (w:=w) (S:=S) (γ:=γ) (f:=f1) (a:=a) hc2 fun t _=>hF.val t
  have hxv:=hF.val t;simp only[ev]at hx;rw[hx]at hxv;have hxv:=fI hxv;obtain⟨fn,tmps,assign,body,hy,hR⟩:=h w0 S γ w _ hW hv hN;obtain⟨callee,args0,ts⟩:=c;simp only at hc1 hv hy;subst hc1;have hr:(execOp a.eval o).run F.P w= .ok (.round l fn tmps assign body) w:=by
   rw[←hy];have e:(args0.toList.map a.eval).toArray=args0.map a.eval:=by rw[←Array.toList_map,Array.toArray_toList]
   rw[e];simp[execOp,hop,resolve,hxv,Deferred.ofValue,invoke]
  unfold Oper.wpIn;refine⟨fun _ _=>trivial,?_⟩;show o.uponIn Fence.wide 1 F.P a K' Q ((execOp a.eval o).run F.P w);rw[hr,Oper.uponIn_round];refine⟨(fun h=>by cases h),hR.mono fun e w' hh=>?_⟩;obtain⟨u,w0',S',γ',rfl,h2,h3,h4,h5,h6⟩:=hh;exact hK u w0' w' S' γ' h2 h3 h4 h5 h6
def wQ (F:yN σ) (j:Nat) (al:List cZ) (hs2:List (Nat×Hint)) (R:σ→Exit→AF→AM→Prop) (k:σ):Option (VC×List Prop×AF×AM)→Prop
 |some (vc,pr,f,μ)=>aG vc∧aM pr∧match al[j]? with
  |some o=>o.guard=none∧∃v k2 μ2,((∃g as,jz f o.k=some (g,as)∧Hv F g as k μ v k2 μ2)∨(∃x as l,o.k= .callv x as∧ev f x= .pv (.val (.func (.yield l) #[] #[]))∧Bc F l (as.map (ev f)) k μ v k2 μ2)) ∧
    fc (R k2 .normal) (bV (aj (F.C k2)) (aN (F.C k2)) true false (al.drop (j+1)) hs2 0 [] [] (put f o.dst v) μ2)
  |none=>False
 |none=>False
theorem vn (j:Nat) {al:List cZ} (hs hs2:List (Nat×Hint)) (h:wQ F j al hs2 R k (bV (aj (F.C k)) (aN (F.C k)) true false (al.take j) hs 0 [] [] f μ)):xZ F own n m (.region false al) R k f μ:=by
 intro c hc;obtain⟨id,ops,rfl,g1,-⟩:=gT hc;unfold wQ at h;split at h
 ·rename_i vc pr f1 μ1 he;obtain⟨h1,h2,h3⟩:=h;split at h3
  ·rename_i o ho;obtain⟨hg,v,k2,μ2,hm,ha⟩:=h3;unfold fc at ha;split at ha
   ·rename_i he2;refine CH g1 ho hg he h1 h2 ?_ he2 ha.1 ha.2.1 ha.2.2;rcases hm with⟨g,as,hp,hy⟩|⟨x,as,l,hk,hx,hy⟩
    ·exact CI hp hy
    ·exact Bd hk hx hy
   ·exact ha.elim
  ·exact h3.elim
 ·exact h.elim
def CJ (rs:List jZ) (r:AV) (k':σ) (μ0:AM):σ→Exit→AF→AM→Prop:=fun k e f μ=>match e with
 | .normal| .ret=>k=k'∧∃vc junk,bw f μ rs=some (vc,r)∧aG vc∧μ=μ0++junk
 |_=>False
theorem CK {fid:FuncId} {q:Nat} {rs:List jZ} {x:ay} {as:List AV} {r:AV} {μ0 μ1:AM} (h:Fn (F.C k) fid own n q rs x) (hq:as.length=q) (hl:μ0.length≤μ1.length) (hr:ck 3 μ1.length r=true) (hm:aP μ1 μ1.length=true)
  (hb:xZ F own n μ0.length x (CJ rs r k2 μ1) k (jK 0 as) μ0):Hv F fid as k μ0 r k2 μ1:=by
 obtain⟨fn,c,h1,h2,h3,h4,h5,h6,h7⟩:=h.ex;refine⟨h7,fun w0 S γ w us hW hp hN=>?_⟩;have hus:us.length≤fn.ntmps:=by rw[←hp.len];omega
 refine calls_of_wp h1 h2 (wp_mono (hb c h3 w0 S γ w _ hW (by rw[←h5,show F.D=[] from h.dz];exact lq hp hus) hN) fun e a' w' hh=>?_);obtain⟨k',w2,S',γ',f',μ',g0,g1,g2,g3,gn,g4⟩:=hh;have fin:(k'=k2∧∃vc junk,bw f' μ' rs=some (vc,r)∧aG vc∧μ'=μ1++junk)→a'.defers=[]∧∃v,(results fn a'.tmps).run F.P w'= .ok v w'∧∃v_1 w0' S' γ',Ending.returned v=Ending.returned v_1∧vm F.Fo w0 w0'∧kE w S γ w' S' γ'∧Wd (F.C k2) w0' S' γ' μ1 w'∧NS F.Fo w0' S'∧VR w' S' γ' r v_1:=by
  rintro⟨rfl,vc,junk,e1,e2,rfl⟩;obtain⟨u,hu,hv⟩:=ko (C:=F.C k') g2 g3 h4 e1 e2;have hγ:∀b,b<μ1.length→b7 γ' μ1.length b=γ' b:=fun b h=>by simp[b7,h]
  refine⟨g3.defers.trans h.dz,u,hu,u,w2,S',b7 γ' μ1.length,rfl,g0,⟨g1.stay,fun b e hb=>?_,g1.more,fun b e' hb=>?_,g1.size⟩,g2.drop hm,gn,lZ hγ 3 hr hv⟩
  ·have hbl:b<μ0.length:=by
    apply Classical.byContradiction;intro hn;rw[hW.mem.none b (by omega)]at hb;cases hb
   obtain⟨e',k1,k2,k3⟩:=g1.gh b e hbl hb;exact⟨e',(hγ b (by omega)).trans k1,k2,k3⟩
  ·unfold b7 at hb;split at hb
   ·exact g1.cbs b e' hb
   ·cases hb
 cases e with
 |normal=>exact fin g4
 |ret=>exact fin g4
 |_=>exact g4.elim
end
end
section
structure kO (w:World) (l:Nat):Prop where
 cell:∀i,w.cell? ⟨l,i,none⟩=none
 map:∀es clock,w.heap[l]?≠some (.map es clock)
 cells:∀cs e fz,w.heap[l]?≠some (.cells cs e fz)
theorem ov {w:World} {l:Nat} {r:Loop} (h:w.heap[l]?=some (.loop r)):kO w l :=
 ⟨fun i=>by simp[World.cell?,h],fun es c=>by rw[h];exact(fun h=>by cases h),fun cs e fz=>by rw[h];exact(fun h=>by cases h)⟩
theorem Be {w:World} {l:Nat} {r:Option (List Deferred)} (h:w.heap[l]?=some (.deferred r)):kO w l :=
 ⟨fun i=>by simp[World.cell?,h],fun es c=>by rw[h];exact(fun h=>by cases h),fun cs e fz=>by rw[h];exact(fun h=>by cases h)⟩
section
variable {w:World} {l:Nat} {o:Obj} {S:Nat→Prop} {γ:Gh}
theorem kO.at_ (hl:kO w l) {g i:Nat} {v:Value} (h:w.cell? ⟨g,i,none⟩=some v):(w.putObj l o).cell? ⟨g,i,none⟩=some v:=by
 have hg:g≠l:=by
  rintro rfl;rw[hl.cell i]at h;cases h
 exact(World.cell?_of_block (World.putObj_heap_other hg)).trans h
theorem kO.Jx (hl:kO w l) {p:PV} {v:Value} (h:Is w S p v):Is (w.putObj l o) S p v:=by
 induction h with
 |int k n=>exact .int k n
 |bool b=>exact .bool b
 |str s=>exact .str s
 |agg l cs hl _ ih=>exact .agg l cs hl ih
 |tup l cs hl _ ih=>exact .tup l cs hl ih
 |nilsl=>exact .nilsl
 |sl n l g o cap c h1 h2 h3 h4 h5 _ ih=>exact .sl n l g o cap c h1 h2 h3 (fun i p hp=>hl.at_ (h4 i p hp)) h5 ih
 |sl0=>exact .sl0
 |slz a cap h=>exact .slz a cap h
 |val v=>exact .val v
 |iface t p=>exact .iface t p
 |mp l r es clock h1 h2 h3 _ ih=>exact .mp l r es clock h1 ((World.putObj_heap_other (by rintro rfl;exact hl.map _ _ h2)).trans h2) h3 ih
theorem kO.vr (hl:kO w l) {p:AV} {v:Value} (h:VR w S γ p v):VR (w.putObj l o) S γ p v:=by
 induction h with
 |pv p v hp=>exact .pv p v (hl.Jx hp)
 |ref b g off n v e a c h1 h2 h3 h4=>exact .ref b g off n v e a c h1 h2 h3 h4
 |ptr b g off v e a h1 h2 h3 h4=>exact .ptr b g off v e a h1 h2 h3 h4
 |iptr l off g o c hS hc hi=>exact .iptr l off g o c hS (fun i p hp=>hl.at_ (hc i p hp)) fun i p hp=>hl.Jx (hi i p hp)
 |agg l cs hl _ ih=>exact .agg l cs hl ih
 |tup l cs hl _ ih=>exact .tup l cs hl ih
 |fn f l cs hl _ ih=>exact .fn f l cs hl ih
 |bm f l cs hl _ ih=>exact .bm f l cs hl ih
 |map b g v e r h1 h2 h3 h4=>exact .map b g v e r h1 h2 h3 h4
 |ifb c a v _ h2 ih=>exact .ifb c a v ih h2
 |any v=>exact .any v
theorem kO.mem {w0:World} {μ:AM} (hl:kO w l) (h:kg w0 S γ μ w):kg w0 S γ μ (w.putObj l o):=by
 refine⟨fun b k hk hz=>?_,fun b k hk hz=>?_,h.none,h.inj⟩
 ·obtain⟨e,cs,h1,h2,h3,⟨fz,h4,h4'⟩,h5,h6,h7,h8,h9⟩:=h.blk b k hk hz;refine⟨e,cs,h1,h2,h3,⟨fz,(World.putObj_heap_other (by rintro rfl;exact hl.cells _ _ _ h4)).trans h4,h4'⟩,h5,h6,fun i a ha=>?_,h8,h9⟩;obtain⟨v,g1,g2,g3⟩:=h7 i a ha;exact⟨v,g1,hl.vr g2,g3⟩
 ·obtain⟨e,h1,h2,h3,⟨es,c,h4,h5,h6⟩,h7,h8⟩:=h.mp b k hk hz;exact⟨e,h1,h2,h3,⟨es,c,(World.putObj_heap_other (by rintro rfl;exact hl.map _ _ h4)).trans h4,⟨h5.len,fun i a b ha hb=>hl.vr (h5.at_ i a b ha hb)⟩,h6⟩,h7,h8⟩
theorem Bf {B:Nat} {w0:World} (h:Below B w0 w) (hl:B≤l):Below B w0 (w.putObj l o) :=
 h.trans ⟨rfl,rfl,rfl,by simp,fun k hk=>World.putObj_heap_other (by omega)⟩
theorem kO.wd {C:Ctx} {w0:World} {μ:AM} (hl:kO w l) (h:Wd C w0 S γ μ w) (h0:w0.heap.size≤l):Wd C w0 S γ μ (w.putObj l o) :=
 ⟨hl.mem h.mem,Bf h.below h0,fun g hg=>by rw[World.putObj_size];exact h.live g hg,h.env⟩
theorem kO.fr {D:List Deferred} {n:Nat} {f:AF} {a:Act} (hl:kO w l) (h:FR D n w S γ f a):FR D n (w.putObj l o) S γ f a :=
 ⟨h.size,h.defers,fun t=>hl.vr (h.val t)⟩
theorem Is.up {S':Nat→Prop} (h:∀g,S g→S' g) {p:PV} {v:Value} (hp:Is w S p v):Is w S' p v:=hp.stay ⟨h,fun _ _=>rfl⟩
end
theorem tD {P:Program} {own:Nat→Bool} {n:Nat} {c:Code} {o:bY} {x y:ay} (hc:comp P own n c=some (.cond o x y)):∃q a b,c= .cond q a b∧aK q=some o∧comp P own n a=some x∧comp P own n b=some y:=by
 cases c<;>simp only[comp]at hc;case cond q a b =>
  split at hc
  ·rename_i o' x' y' h0 h1 h2;injection hc with hc;injection hc with e0 e1 e2
   subst e0 e1 e2;exact⟨q,a,b,rfl,h0,h1,h2⟩
  ·cases hc
 all_goals repeat' split at hc
 all_goals first
  |(cases hc;done)
  |(injection hc with hc;cases hc;done)
  |(rcases ec hc with hc|hc<;>cases hc)
theorem nf {P:Program} {own:Nat→Bool} {n id:Nat} {c:Code} {x:ay} (hc:comp P own n c=some (.block id x)):∃a,c= .block id a∧comp P own n a=some x:=by
 cases c<;>simp only[comp]at hc;case block i a =>
  split at hc
  ·rename_i x' h1;injection hc with hc;injection hc with e0 e1
   subst e0 e1;exact⟨a,rfl,h1⟩
  ·cases hc
 all_goals repeat' split at hc
 all_goals first
  |(cases hc;done)
  |(injection hc with hc;cases hc;done)
  |(rcases ec hc with hc|hc<;>cases hc)
theorem vo {P:Program} {own:Nat→Bool} {n:Nat} {c:Code} (hc:comp P own n c=some .ret):c= .ret:=by
 cases c<;>simp only[comp]at hc;case ret=>rfl
 all_goals repeat' split at hc
 all_goals first
  |(cases hc;done)
  |(injection hc with hc;cases hc;done)
  |(rcases ec hc with hc|hc<;>cases hc)
theorem tE {P:Program} {own:Nat→Bool} {n:Nat} {c:Code} (hc:comp P own n c=some .skip):c= .skip:=by
 cases c<;>simp only[comp]at hc;case skip=>rfl
 all_goals repeat' split at hc
 all_goals first
  |(cases hc;done)
  |(injection hc with hc;cases hc;done)
  |(rcases ec hc with hc|hc<;>cases hc)
theorem sf {P:Program} {own:Nat→Bool} {n:Nat} {c:Code} {g:bY} {ps:List Nat} {x y:ay} (hc:comp P own n c=some (.range g ps x y)):∃q qs a b,c= .rangeFunc q qs a b∧aK q=some g∧qs.toList=ps∧comp P own n a=some x∧comp P own n b=some y:=by
 cases c<;>simp only[comp]at hc;case rangeFunc q qs a b =>
  split at hc
  ·rename_i o' x' y' h0 h1 h2;injection hc with hc;injection hc with e0 e1 e2 e3
   subst e0 e1 e2 e3;exact⟨q,qs,a,b,rfl,h0,rfl,h1,h2⟩
  ·cases hc
 all_goals repeat' split at hc
 all_goals first
  |(cases hc;done)
  |(injection hc with hc;cases hc;done)
  |(rcases ec hc with hc|hc<;>cases hc)
theorem Bg {P:Program} {own:Nat→Bool} {n:Nat} {ops:Array Oper} {o:Oper} {ao:cZ} (h:eo P own n ops o=some ao):∀c,o.op≠.defer c:=by
 intro c hc;unfold eo at h;rw[hc]at h;simp[fY]at h
theorem wR {P:Program} {l:Nat} {o:Oper} {a:Act} {w:World} {K:Act→World→Prop} {Q:Exit→Act→World→Prop} (hnd:∀c,o.op≠.defer c) (h:o.wp P a w K Q):o.wpIn (Fence.wide.inRound l) 0 P a w K Q:=by
 unfold Oper.wpIn;refine⟨fun _ _=>trivial,?_⟩;rw[Oper.semAt_eq _ _ _ hnd];unfold Oper.wp at h;generalize (execOp a.eval o).run P w=r at *;cases r with
 |ok x w' =>
  cases x with
  |enter g args=>exact⟨(fun h=>by cases h),(callsIn_wide (n:=0).mpr h).inRound l⟩
  |row row args=>exact⟨(fun h=>by cases h),ue h⟩
  |_=>simp only[Oper.upon,Oper.uponIn]at h ⊢<;>first|exact h|exact h.elim
 |halt x w'=>cases x<;>simp only[Oper.upon,Oper.uponIn]at h ⊢<;>first|exact h|exact h.elim
theorem yO {P:Program} {l:Nat} {ops:Array Oper} {o:Oper} {i:Nat} {a:Act} {w:World} {K:Act→World→Prop} {Q:Exit→Act→World→Prop} (ho:ops[i]?=some o) (hnd:∀c,o.op≠.defer c) (h:kj P ops o a w K Q):wpOpIn (Fence.wide.inRound l) 0 P ops Q i K a w:=by
 unfold wpOpIn;rw[ho];simp only;unfold kj at h;split
 ·rename_i hw;rw[if_pos hw]at h;exact wR hnd h
 ·rename_i hw;rw[if_neg hw]at h;exact⟨fun _ _=>trivial,h⟩
section
variable {C:Ctx} {l:Nat} {own:Nat→Bool} {n m:Nat} {R:Exit→AF→AM→Prop} {f:AF} {μ:AM}
def z6 (C:Ctx) (l:Nat) (own:Nat→Bool) (n m:Nat) (x:ay) (R:Exit→AF→AM→Prop) (f:AF) (μ:AM):Prop :=
 ∀c,comp C.P own n c=some x→∀(w0:World) (S:Nat→Prop) (γ:Gh) (w:World) (a:Act),Wd C w0 S γ μ w→FR C.D n w S γ f a→c.wpIn (Fence.wide.inRound l) 0 C.P (Ends C n m w0 w S γ R) a w
theorem qX {x y:ay} (h:z6 C l own n m x (cW (fun f μ=>z6 C l own n m y R f μ) R) f μ):z6 C l own n m (.seq x y) R f μ:=by
 intro c hc w0 S γ w a hW hF;obtain⟨c1,c2,rfl,h1,h2⟩:=mb hc;refine wpIn_seq (wpIn_mono (h c1 h1 w0 S γ w a hW hF) fun e a' w' hE=>?_);obtain⟨S',γ',f',μ',g1,g2,g3,g5⟩:=hE;cases e with
 |normal=>exact wpIn_mono (g5 c2 h2 w0 S' γ' w' a' g2 g3) fun e a'' w'' hh=>hh.ext g1
 |_=>exact⟨S',γ',f',μ',g1,g2,g3,g5⟩
theorem CL {o:bY} {x y:ay} {t:Bool} (ho:ev f o= .pv (.bool t)) (h:z6 C l own n m (bif t then x else y) R f μ):z6 C l own n m (.cond o x y) R f μ:=by
 intro c hc w0 S γ w a hW hF;obtain⟨q,c1,c2,rfl,h0,h1,h2⟩:=tD hc;have hv:=aY (w:=w) (S:=S) (γ:=γ) (f:=f) (a:=a) h0 fun t _=>hF.val t
 rw[ho]at hv;have hv:=cV hv;refine wpIn_cond hv ?_;cases t with
 |true=>exact h c1 h1 w0 S γ w a hW hF
 |false=>exact h c2 h2 w0 S γ w a hW hF
theorem pV {id:Nat} {x:ay} (h:z6 C l own n m x (dH id R) f μ):z6 C l own n m (.block id x) R f μ:=by
 intro c hc w0 S γ w a hW hF;obtain⟨c1,rfl,h1⟩:=nf hc;refine wpIn_block (wpIn_mono (h c1 h1 w0 S γ w a hW hF) fun e a' w' hE=>?_);obtain⟨S',γ',f',μ',g1,g2,g3,g5⟩:=hE;cases e with
 |exit i =>
  simp only[dH]at g5;simp only[Exit.inBlock];by_cases hi:i=id
  ·subst hi;rw[if_pos rfl];rw[Nat.beq_refl,cond_true]at g5;exact⟨S',γ',f',μ',g1,g2,g3,g5⟩
  ·rw[if_neg hi];rw[tY hi,cond_false]at g5;exact⟨S',γ',f',μ',g1,g2,g3,g5⟩
 |_=>exact⟨S',γ',f',μ',g1,g2,g3,g5⟩
theorem EA (h:R .ret f μ):z6 C l own n m .ret R f μ:=by
 intro c hc w0 S γ w a hW hF;obtain rfl:=vo hc;exact wpIn_ret ⟨S,γ,f,μ,fZ.refl _ _ _ _,hW,hF,h⟩
theorem CM (h:R .normal f μ):z6 C l own n m .skip R f μ:=by
 intro c hc w0 S γ w a hW hF;obtain rfl:=tE hc;exact wpIn_skip ⟨S,γ,f,μ,fZ.refl _ _ _ _,hW,hF,h⟩
theorem j4 (cm:Bool) {al:List cZ} (hs:List (Nat×Hint)) (h:fc (R .normal) (bV (aj C) (aN C) cm false al hs 0 [] [] f μ)):z6 C l own n m (.region false al) R f μ:=by
 intro c hc;obtain⟨id,ops,rfl,hc,-⟩:=gT hc;unfold fc at h;split at h
 ·rename_i vc pr f' μ' he;obtain⟨hvc,hpr,hR⟩:=h;intro w0 S γ w a hW hF;refine wpIn_region ?_;obtain⟨-,F,M,V,h1,h2,h3,h4,h5⟩:=b6 al 0 [] [] f μ vc pr f' μ' he hvc hpr;obtain⟨hl,hat⟩:=dA hc;replace hl:al.length=ops.size:=hl.trans (Array.length_toList);rw[Nat.zero_add]at h3 h4;have key:∀(l' k:Nat),k+l'=ops.size→∀(S1:Nat→Prop) (γ1:Gh) (w1:World) (a1:Act),Ext w S γ w1 S1 γ1→Wd C w0 S1 γ1 (M k) w1→FR C.D n w1 S1 γ1 (F k) a1→wpOpsIn (Fence.wide.inRound l) 0 C.P ops (Ends C n m w0 w S γ R) (List.range' k l') a1 w1:=by
   intro l';induction l' with
   |zero =>
    intro k hk S1 γ1 w1 a1 hE hW1 hF1;simp only[List.range'_zero,wpOpsIn];have:k=al.length:=by rw[hl];omega
    subst this;rw[h4]at hW1;rw[h3]at hF1;exact⟨S1,γ1,f',μ',hE.toM m,hW1,hF1,hR⟩
   |succ l' ih =>
    intro k hk S1 γ1 w1 a1 hE hW1 hF1;rw[List.range'_succ,wpOpsIn_cons];have hkl:k<ops.size:=by omega
    have ho:ops[k]?=some ops[k]:=by simp[hkl]
    obtain⟨ao,hao,hco⟩:=hat k ops[k] (by rw[Array.getElem?_toList];exact ho);obtain⟨vcj,prj,k1,k2,k3,k4⟩:=h5 k ao hao;rw[Nat.zero_add]at k1 k4;obtain⟨-,-,hdst,hlt,-⟩:=bG hco;refine yO ho (Bg hco) (bK hW1 hco k1 k2 k3 (fun t _=>hF1.val t) fun u w2 S2 γ2 hE2 hW2 hv=>?_);refine ih (k+1) (by omega) S2 γ2 w2 _ (hE.trans hE2) hW2 ?_;rw[k4,hdst];exact(hF1.ext hE2).put hv hlt
  rw[List.range_eq_range'];exact key ops.size 0 (by omega) S γ w a (Ext.refl _ _ _) (by rw[h2];exact hW) (by rw[h1];exact hF)
 ·exact h.elim
end
end
section
def Bh (q:Nat):AF→Bool
 |[]=>true
 |(_,.ptr b _ _)::r=>Nat.blt b q&&Bh q r
 |_::_=>false
theorem sh {q:Nat}:∀{g:AF},Bh q g=true→∀t,get g t= .any∨∃b gn off,get g t= .ptr b gn off∧b<q
 |[],_,t=>.inl rfl
 |(d,v)::r,h,t=>by
  cases v<;>simp only[Bh,Bool.false_eq_true,Bool.and_eq_true]at h;rename_i b gn off;simp only[get];cases hd:Nat.beq d t with
  |true=>exact .inr ⟨b,gn,off,rfl,Nat.blt_eq.mp h.1⟩
  |false=>exact sh h.2 t
def wS:AV→Bool
 | .pv (.int _ _)=>true
 | .pv (.bool _)=>true
 |_=>false
theorem z7 {a:AV} {v:Value} {w w':World} {S S':Nat→Prop} {γ γ':Gh} (h:wS a=true) (hv:VR w S γ a v):VR w' S' γ' a v:=by
 unfold wS at h;split at h
 ·rw[eZ hv];exact .pv _ _ (.int _ _)
 ·rw[cV hv];exact .pv _ _ (.bool _)
 ·cases h
structure Bi (k:dT):Prop where
 cells:∀a∈k.cells,wS a=true
 frozen:k.frozen=false
 gen:k.gen=0
 sz:k.sz≠0
def EB (γ:Gh) (q l g:Nat):Prop:=g=l∨∃b e,b<q∧γ b=some e∧e.cb=g
structure GA (Fo:Nat→Prop) (w1 w:World):Prop where
 os:w.os=w1.os
 tape:w.tape=w1.tape
 output:w.output=w1.output
 size:w1.heap.size≤w.heap.size
 block:∀g,g<w1.heap.size→¬Fo g→w.heap[g]?=w1.heap[g]?
def si (L:Loop) (st:Bool):Loop:={L with state:=bif st then .done else .ready,pending:=bif st then some .ret else none}
def busy (L:Loop):Loop:={L with state:=.busy,pending:=none}
structure Site (σ:Type) where
 C:Ctx
 w0:World
 w1:World
 S:Nat→Prop
 γ:Gh
 q:Nat
 l:Nat
 fo:σ→AM
 L:Loop
 stop:σ→Bool
structure Site.OK {σ:Type} (X:Site σ):Prop where
 D:X.C.D=[]
 env:X.C.E X.w0
 below:Below X.w0.heap.size X.w0 X.w1
 live:∀g,X.S g→g<X.w1.heap.size
 l0:X.w0.heap.size≤X.l
 l1:X.l<X.w1.heap.size
 cb:∀b e,b<X.q→X.γ b=some e→X.w0.heap.size≤e.cb∧e.cb<X.w1.heap.size∧e.cb≠X.l∧¬X.S e.cb
 len:∀k,(X.fo k).length=X.q
 lit:∀k b,b∈X.fo k→Bi b
variable {σ:Type}
def Site.E (X:Site σ) (k:σ) (w:World):Prop:=GA (EB X.γ X.q X.l) X.w1 w∧kg X.w0 X.S (b7 X.γ X.q) (X.fo k) w∧w.heap[X.l]?=some (.loop (si X.L (X.stop k)))
theorem Site.OK.CN {X:Site σ} (hX:X.OK) {g:Nat} (hg:EB X.γ X.q X.l g):X.w0.heap.size≤g∧g<X.w1.heap.size:=by
 rcases hg with rfl|⟨b,e,h1,h2,rfl⟩
 ·exact⟨hX.l0,hX.l1⟩
 ·exact⟨(hX.cb b e h1 h2).1,(hX.cb b e h1 h2).2.1⟩
theorem Site.OK.ox {X:Site σ} (hX:X.OK) {w:World} (h:GA (EB X.γ X.q X.l) X.w1 w):Below X.w0.heap.size X.w0 w :=
 ⟨h.os.trans hX.below.os,h.tape.trans hX.below.tape,h.output.trans hX.below.output,Nat.le_trans hX.below.size h.size,fun g hg =>
  (h.block g (Nat.lt_of_lt_of_le hg hX.below.size) fun hf=>by have:=(hX.CN hf).1;omega).trans (hX.below.block g hg)⟩
theorem Site.OK.hE {X:Site σ} (hX:X.OK) (k:σ) (w w':World) (h:X.E k w) (hb:Below w.heap.size w w'):X.E k w':=by
 obtain⟨h1,h2,h3⟩:=h;have hl:X.l<w.heap.size:=Nat.lt_of_lt_of_le hX.l1 h1.size;refine⟨⟨hb.os.trans h1.os,hb.tape.trans h1.tape,hb.output.trans h1.output,Nat.le_trans h1.size hb.size,fun g hg hf=>(hb.block g (Nat.lt_of_lt_of_le hg h1.size)).trans (h1.block g hg hf)⟩,?_,(hb.block _ hl).trans h3⟩;exact h2.stay (S':=X.S) ⟨⟨fun _ h=>h,fun g hg=>hb.block g (Nat.lt_of_lt_of_le (hX.live g hg) h1.size)⟩,fun _ e h=>⟨e,h,Nat.le_refl _,fun _=>rfl⟩,fun _ h=>.inl h,fun b e h=>.inl ⟨b,e,h,rfl⟩,hb.size⟩ (fun b e he hlt=>hb.block _ hlt) fun b k e _ _ _ _ h=>h
def Site.x6 (X:Site σ) (hX:X.OK):yN σ:=⟨X.C.P,X.C.mixed,[],X.E,hX.hE,EB X.γ X.q X.l⟩
def CO (μ1:AM) (go:Bool):Exit→AF→AM→Prop:=fun e _ μ=>match e with
 | .normal=>go=true∧∃junk,μ=μ1++junk
 | .ret=>go=false∧∃junk,μ=μ1++junk
 |_=>False
theorem gz {γ:Gh} {q b:Nat} {e:tq} (h:b7 γ q b=some e):b<q∧γ b=some e:=by
 unfold b7 at h;split at h
 ·exact⟨by assumption,h⟩
 ·cases h
theorem vp {w0 w w':World} {S S':Nat→Prop} {γ:Gh} {μ:AM} (h:kg w0 S γ μ w) (hl:∀b∈μ,Bi b) (hS:∀b e,b<μ.length→γ b=some e→¬S' e.cb) (hh:∀b e,b<μ.length→γ b=some e→w'.heap[e.cb]?=w.heap[e.cb]?):kg w0 S' γ μ w':=by
 refine⟨fun b k hk hz=>?_,fun b k hk hz=>?_,h.none,h.inj⟩
 ·obtain⟨e,cs,h1,h2,h3,h4,h5,h6,h7,h8,h9⟩:=h.blk b k hk hz;have hb:=(List.getElem?_eq_some_iff.mp hk).1;refine⟨e,cs,h1,h2,h3,h4.congr (hh b e hb h1) rfl id,h5,h6,fun i a ha=>?_,h8,fun _=>hS b e hb h1⟩;obtain⟨v,g1,g2,g3⟩:=h7 i a ha;exact⟨v,g1,z7 ((hl k (List.mem_of_getElem? hk)).cells a (List.mem_of_getElem? ha)) g2,g3⟩
 ·exact absurd hz (hl k (List.mem_of_getElem? hk)).sz
theorem Site.OK.round {X:Site σ} (hX:X.OK) {own:Nat→Bool} {n p1 p2:Nat} {xa xb:ay} (hxa:comp X.C.P own n X.L.assign=some xa) (hxb:comp X.C.P own n X.L.body=some xb)
  (hps:X.L.params=#[p1,p2]) (hp1:p1<n) (hp2:p2<n) (hn:X.L.tmps.size=n) {g0:AF} (hg0:Bh X.q g0=true) (hgv:∀t,VR X.w1 X.S (b7 X.γ X.q) (get g0 t) ((⟨X.L.tmps,[]⟩:Act).eval (.tmp t)))
  {v1 v2:PV} {k k':σ} {go:Bool} (hk:X.stop k=false) (hk':X.stop k'= !go)
  (hw:z6 X.C X.l own n X.q xa (cW (fun f μ=>z6 X.C X.l own n X.q xb (CO (X.fo k') go) f μ) (fun _ _ _=>False)) (put (put g0 (some p1) (.pv v1)) (some p2) (.pv v2)) (X.fo k))
  (μ:AM):Bc (X.x6 hX) X.l [.pv v1,.pv v2] k μ (.pv (.bool go)) k' μ:=by
 intro w0' S' γ' w vs hW hp hN;have hW':Wd ((X.x6 hX).C k) w0' S' γ' μ w:=hW;obtain⟨hNe,hM,hrec⟩:X.E k w:=hW'.E;obtain⟨hNe0,-,-⟩:X.E k w0':=hW'.env;have hs0:X.w1.heap.size≤w0'.heap.size:=hNe0.size;have hsw:w0'.heap.size≤w.heap.size:=hW'.below.size;obtain⟨u1,u2,rfl⟩:∃u1 u2,vs=[u1,u2]:=by
  have:=hp.len;match vs,this with
  |[a,b],_=>exact⟨a,b,rfl⟩
 have hu1:=hp.at_ 0 _ _ rfl rfl;have hu2:=hp.at_ 1 _ _ rfl rfl;rw[hk]at hrec;have hy:=run_yield (P:=X.C.P) (args:=[u1,u2].toArray) hrec (by simp[si,hps]);refine⟨X.L.fn,_,X.L.assign,X.L.body,hy,roundIn_of_wpIn trivial ?_⟩;have hnF:∀g,S' g→¬EB X.γ X.q X.l g:=fun g hg hf=>(hN g hf).2 hg
 let SB:Nat→Prop:=fun g=>g<w.heap.size∧¬∃b e,b<X.q∧X.γ b=some e∧e.cb=g
 have hSB:∀g,S' g→SB g:=fun g hg=>⟨hW'.live g hg,fun ⟨b,e,h1,h2,h3⟩=>hnF g hg (.inr ⟨b,e,h1,h2,h3⟩)⟩
 have hSl:SB X.l:=⟨Nat.lt_of_lt_of_le hX.l1 hNe.size,fun ⟨b,e,h1,h2,h3⟩=>(hX.cb b e h1 h2).2.2.1 h3⟩
 have hMB:kg X.w0 SB (b7 X.γ X.q) (X.fo k) w:=vp hM (hX.lit k) (fun b e _ h1 hs=>hs.2 ⟨b,e,(gz h1).1,(gz h1).2,rfl⟩) fun _ _ _ _=>rfl
 have hWB:Wd X.C X.w0 SB (b7 X.γ X.q) (X.fo k) w:=⟨hMB,hX.ox hNe,fun g hg=>hg.1,hX.env⟩
 have hF0:FR X.C.D n w SB (b7 X.γ X.q) g0 ⟨X.L.tmps,[]⟩:=⟨hn,hX.D.symm,fun t=>by
  have:=hgv t;rcases sh hg0 t with h|⟨b,gn,off,h,hb⟩
  ·rw[h];exact .any _
  ·rw[h]at this ⊢;generalize (⟨X.L.tmps,[]⟩:Act).eval (.tmp t)=u at this;cases this with
   |ptr _ _ _ _ e a q1 q2 q3 q4=>exact .ptr b gn off _ e a q1 q2 q3 q4⟩
 have up:∀{v:PV} {u:Value},VR w S' γ' (.pv v) u→VR w SB (b7 X.γ X.q) (.pv v) u:=fun h=>.pv _ _ ((cv h).up hSB)
 have hF:FR X.C.D n w SB (b7 X.γ X.q) (put (put g0 (some p1) (.pv v1)) (some p2) (.pv v2)) ⟨(X.L.params.zip [u1,u2].toArray).foldl (fun t (p,v)=>t.setIfInBounds p v) X.L.tmps,[]⟩:=by
  have:=(hF0.put (up hu1) (d:=some p1) (by rintro t ⟨⟩;exact hp1)).put (up hu2) (d:=some p2) (by rintro t ⟨⟩;exact hp2);rw[hps];simpa [Act.put]using this
 refine wpIn_mono (hw _ hxa X.w0 SB _ w _ hWB hF) fun e a1 w2 hE=>?_
 obtain⟨S1,γ1,f1,μ1,hE1,hW1,hF1,hR1⟩:=hE;cases e with
 |normal=>?_
 |exit id=>exact hR1.elim
 |goto id=>exact hR1.elim
 |ret=>exact hR1.elim
 |panic c=>exact hR1.elim
 |outgrown=>exact hR1.elim
 have hl1:w2.heap[X.l]?=some (.loop (si X.L false)):=(hE1.stay.blk _ hSl).trans hrec;refine⟨_,run_beginRound hl1 rfl,?_⟩;have hbl:=ov hl1;refine wpIn_mono (hR1 _ hxb X.w0 S1 γ1 _ a1 (hbl.wd hW1 hX.l0) (hbl.fr hF1)) fun e a2 w3 hE=>?_
 obtain⟨S2,γ2,f2,μ2,hE2,hW2,hF2,hR2⟩:=hE;have hl2':(w2.putObj X.l (.loop (busy X.L))).heap[X.l]?=some (.loop (busy X.L)):=World.putObj_heap_same (Array.getElem?_eq_some_iff.1 hl1).1;have hl2:w3.heap[X.l]?=some (.loop (busy X.L)):=(hE2.stay.blk _ (hE1.stay.set _ hSl)).trans hl2';have hbl2:=ov hl2;have hbusy:∀j:Option Code,({busy X.L with state:=if j.isNone then .ready else .done,pending:=j}:Loop)={X.L with state:=if j.isNone then .ready else .done,pending:=j}:=fun j=>rfl
 have fin:∀(jump:Option Code),({X.L with state:=if jump.isNone then .ready else .done,pending:=jump}:Loop)=si X.L (X.stop k')→(∃junk,μ2=X.fo k'++junk)→jump.isNone=go →
   ∃v w4,(Instr.endRound X.l jump).run X.C.P w3= .ok v w4∧∃v' w0'' S'' γ'',Ending.returned v=Ending.returned v'∧vm (X.x6 hX).Fo w0' w0''∧kE w S' γ' w4 S'' γ''∧Wd ((X.x6 hX).C k') w0'' S'' γ'' μ w4∧NS (X.x6 hX).Fo w0'' S''∧VR w4 S'' γ'' (.pv (.bool go)) v':=by
  rintro jump hj ⟨junk,rfl⟩ hgo;have hr:=run_endRound (P:=X.C.P) jump hl2;rw[hbusy,hj]at hr;refine⟨_,_,hr,?_⟩;generalize hw4:w3.putObj X.l (.loop (si X.L (X.stop k')))=w4;have hoth:∀g,g≠X.l→w4.heap[g]?=w3.heap[g]?:=fun g hg=>by rw[←hw4];exact World.putObj_heap_other hg
  have hl4:w4.heap[X.l]?=some (.loop (si X.L (X.stop k'))):=by rw[←hw4];exact World.putObj_heap_same (Array.getElem?_eq_some_iff.1 hl2).1
  have hsz:w4.heap.size=w3.heap.size:=by rw[←hw4];simp
  have hos:w4.os=w3.os∧w4.tape=w3.tape∧w4.output=w3.output:=by rw[←hw4];exact⟨rfl,rfl,rfl⟩
  have hsz2:w.heap.size≤w3.heap.size:=Nat.le_trans hE1.size (by have:=hE2.size;rwa [World.putObj_size]at this);have hblk:∀g,g<w.heap.size→¬EB X.γ X.q X.l g→w4.heap[g]?=w.heap[g]?:=fun g hg hf=>by
   have hgl:g≠X.l:=fun h=>hf (.inl h)
   have hs:SB g:=⟨hg,fun ⟨b,e,h1,h2,h3⟩=>hf (.inr ⟨b,e,h1,h2,h3⟩)⟩
   rw[hoth g hgl,hE2.stay.blk g (hE1.stay.set g hs),World.putObj_heap_other hgl,hE1.stay.blk g hs]
  have hb3:=hX.ox hNe;have hd3:=hW2.below;let w0'':World:={w4 with heap:=w4.heap.extract 0 w0'.heap.size}
  have hs00:w0''.heap.size=w0'.heap.size:=by
   show(w4.heap.extract 0 w0'.heap.size).size=_;rw[Array.size_extract];omega
  have h00:∀g,g<w0'.heap.size→w0''.heap[g]?=w4.heap[g]?:=fun g hg=>by
   show(w4.heap.extract 0 w0'.heap.size)[g]?=_;rw[Array.getElem?_extract_of_lt (by omega)];simp only[Nat.zero_add];rw[Array.getElem?_eq_getElem]
  have hM2:kg X.w0 X.S (b7 X.γ X.q) (X.fo k') w4:=by
   refine⟨fun b kb hkb hz=>?_,fun b kb hkb hz=>absurd hz (hX.lit k' kb (List.mem_of_getElem? hkb)).sz,fun b hb=>by
    have:=hX.len k';unfold b7;rw[if_neg (by omega)],fun b b' e e' h1 h2 h3=>hM.inj b b' e e' h1 h2 h3⟩
   have hbq:b<X.q:=by rw[←hX.len k'];exact(List.getElem?_eq_some_iff.mp hkb).1
   have hL:=hX.lit k' kb (List.mem_of_getElem? hkb);obtain⟨e2,cs,g1,g2,g3,g4,g5,g6,g7,g8,g9⟩:=hW2.mem.blk b kb (by rw[List.getElem?_append_left (by rw[hX.len k'];exact hbq)];exact hkb) hz;have hk0:b<(X.fo k).length:=by rw[hX.len k];exact hbq
   obtain⟨e,q1,q2,-,-,q5,-⟩:=hM.B7 (List.getElem?_eq_getElem hk0);have hL0:=hX.lit k _ (List.getElem_mem hk0);obtain⟨e1,r1,r2,r3⟩:=hE1.gh b e hbq q1;obtain⟨e2',s1,s2,s3⟩:=hE2.gh b e1 hbq r1;rw[g1]at s1;injection s1 with s1
   subst s1;have hz1:e.gen=0:=by rw[q2];exact hL0.gen
   have hz2:e2.gen=0:=by rw[g2];exact hL.gen
   obtain rfl:e1=e:=r3 (by omega);obtain rfl:e2=e1:=s3 (by omega);have hcb:=hX.cb b e2 hbq (gz q1).2;refine⟨e2,cs,q1,g2,g3,g4.congr (hoth _ hcb.2.2.1) rfl id,g5,g6,fun i a ha=>?_,q5,fun _=>hcb.2.2.2⟩;obtain⟨v,t1,t2,t3⟩:=g7 i a ha;exact⟨v,t1,z7 (hL.cells a (List.mem_of_getElem? ha)) t2,t3⟩
  have hNe4:GA (EB X.γ X.q X.l) X.w1 w4:=⟨by rw[hos.1,hd3.os,←hX.below.os],by rw[hos.2.1,hd3.tape,←hX.below.tape],by rw[hos.2.2,hd3.output,←hX.below.output],by have:=hNe.size;omega,fun g hg hf=>(hblk g (Nat.lt_of_lt_of_le hg hNe.size) hf).trans (hNe.block g hg hf)⟩
  have hE0:X.E k' w0'':=⟨⟨hNe4.os,hNe4.tape,hNe4.output,by rw[hs00];exact hs0,fun g hg hf=>(h00 g (by omega)).trans (hNe4.block g hg hf)⟩,
   vp hM2 (hX.lit k') (fun b e hb h1=>(hX.cb b e (gz h1).1 (gz h1).2).2.2.2) fun b e hb h1=>h00 _ (by have:=(hX.cb b e (gz h1).1 (gz h1).2).2.1;omega),(h00 _ (by have:=hX.l1;omega)).trans hl4⟩
  have hExt:kE w S' γ' w4 S' γ':=⟨⟨fun _ h=>h,fun g hg=>hblk g (hW'.live g hg) (hnF g hg)⟩,fun _ e h=>⟨e,h,Nat.le_refl _,fun _=>rfl⟩,fun _ h=>.inl h,fun b e h=>.inl ⟨b,e,h,rfl⟩,by omega⟩
  have hb':=hW'.below;refine⟨_,w0'',S',γ',rfl,⟨?_,?_,?_,hs00,fun g hf=>?_⟩,hExt,⟨?_,?_,fun g hg=>by have:=hW'.live g hg;omega,hE0⟩,fun g hg=>?_,?_⟩
  ·exact hNe4.os.trans hNe0.os.symm
  ·exact hNe4.tape.trans hNe0.tape.symm
  ·exact hNe4.output.trans hNe0.output.symm
  ·by_cases hg:g<w0'.heap.size
   ·rw[h00 g hg,hblk g (by omega) hf,hb'.block g hg]
   ·rw[Array.getElem?_eq_none (by omega),Array.getElem?_eq_none (by omega)]
  ·have hm:kg w0' S' γ' μ w4:=hW'.mem.stay hExt (fun b e he hlt=>hblk _ hlt fun hf=>by
    have h1:=(hX.CN hf).2;have hb:b<μ.length:=by
     apply Classical.byContradiction;intro hnb;rw[hW'.mem.none b (by omega)]at he;cases he
    obtain⟨e0,q1,-,-,-,q5,-⟩:=hW'.mem.B7 (List.getElem?_eq_getElem hb);rw[he]at q1;injection q1 with q1
    subst q1;omega) fun b k e _ _ _ _ h=>h
   exact⟨fun b k hk hz=>by rw[hs00];exact hm.blk b k hk hz,fun b k hk hz=>by rw[hs00];exact hm.mp b k hk hz,hm.none,hm.inj⟩
  ·exact⟨rfl,rfl,rfl,by show(w4.heap.extract 0 w0'.heap.size).size≤_;rw[Array.size_extract];omega,fun g hg=>(h00 g (by omega)).symm⟩
  ·rw[hs00];exact hN g hg
  ·rw[hgo];exact .pv _ _ (.bool _)
 cases e with
 |normal =>
  obtain⟨hgo,hj⟩:=hR2;subst hgo;obtain⟨v,w4,h1,h2⟩:=fin none (by rw[hk'];rfl) hj rfl;exact⟨v,w4,h1,h2⟩
 |ret =>
  obtain⟨hgo,hj⟩:=hR2;subst hgo;obtain⟨v,w4,h1,h2⟩:=fin (some .ret) (by rw[hk'];rfl) hj rfl;exact⟨v,w4,h1,h2⟩
 |exit id=>exact hR2.elim
 |goto id=>exact hR2.elim
 |panic c=>exact hR2.elim
 |outgrown=>exact hR2.elim
end
section
def mark (r:Nat):Deferred:={target:=.collected r,args:=#[]}
def Mk (w0:World) (S:Nat→Prop) (w:World) (D:List Deferred):Prop :=
 ∃l:List Nat,D=l.map mark∧l.Nodup∧∀r∈l,S r∧w0.heap.size≤r∧w.heap[r]?=some (.deferred (some []))
def z8 (C:Ctx) (n m:Nat) (w0 w:World) (S:Nat→Prop) (γ:Gh) (R:Exit→AF→AM→Prop):Exit→Act→World→Prop :=
 fun x a' w'=>∃D S' γ' f' μ',fZ m w S γ w' S' γ'∧Wd C w0 S' γ' μ' w'∧FR D n w' S' γ' f' a'∧Mk w0 S' w' D∧R x f' μ'
def Eg (C:Ctx) (own:Nat→Bool) (n m:Nat) (x:ay) (R:Exit→AF→AM→Prop) (f:AF) (μ:AM):Prop :=
 ∀c,comp C.P own n c=some x→∀(D:List Deferred) (w0:World) (S:Nat→Prop) (γ:Gh) (w:World) (a:Act),Wd C w0 S γ μ w→FR D n w S γ f a→Mk w0 S w D→c.wpIn Fence.wide 1 C.P (z8 C n m w0 w S γ R) a w
section
variable {C:Ctx} {own:Nat→Bool} {n m:Nat} {R:Exit→AF→AM→Prop} {f:AF} {μ:AM}
theorem Mk.ext {w0 w w':World} {S S':Nat→Prop} {γ γ':Gh} {D:List Deferred} (h:Mk w0 S w D) (hE:fZ m w S γ w' S' γ'):Mk w0 S' w' D:=by
 obtain⟨l,h1,h2,h3⟩:=h;refine⟨l,h1,h2,fun r hr=>?_⟩;obtain⟨q1,q2,q3⟩:=h3 r hr;exact⟨hE.stay.set r q1,q2,(hE.stay.blk r q1).trans q3⟩
theorem z8.ext {w0 w w1:World} {S S1:Nat→Prop} {γ γ1:Gh} {x:Exit} {a':Act} {w':World} (hE:fZ m w S γ w1 S1 γ1) (h:z8 C n m w0 w1 S1 γ1 R x a' w'):z8 C n m w0 w S γ R x a' w':=by
 obtain⟨D,S',γ',f',μ',g1,g2,g3,g4,g5⟩:=h;exact⟨D,S',γ',f',μ',hE.trans g1,g2,g3,g4,g5⟩
theorem eR {x:ay} (h:∀D,Aw {C with D:=D} own n m x R f μ):Eg C own n m x R f μ:=by
 intro c hc D w0 S γ w a hW hF hM;rw[wpIn_wide];refine wp_mono (h D c hc w0 S γ w a ⟨hW.mem,hW.below,hW.live,hW.env⟩ hF) fun e a' w' hh=>?_
 obtain⟨S',γ',f',μ',h1,h2,h3,h4⟩:=hh;exact⟨D,S',γ',f',μ',h1,⟨h2.mem,h2.below,h2.live,h2.env⟩,h3,hM.ext h1,h4⟩
theorem gE {x y:ay} (h:Eg C own n m x (cW (fun f μ=>Eg C own n m y R f μ) R) f μ):Eg C own n m (.seq x y) R f μ:=by
 intro c hc D w0 S γ w a hW hF hM;obtain⟨c1,c2,rfl,h1,h2⟩:=mb hc;refine wpIn_seq (wpIn_mono (h c1 h1 D w0 S γ w a hW hF hM) fun e a' w' hE=>?_);obtain⟨D',S',γ',f',μ',g1,g2,g3,g4,g5⟩:=hE;cases e with
 |normal=>exact wpIn_mono (g5 c2 h2 D' w0 S' γ' w' a' g2 g3 g4) fun e a'' w'' hh=>hh.ext g1
 |_=>exact⟨D',S',γ',f',μ',g1,g2,g3,g4,g5⟩
theorem pW {id:Nat} {x:ay} (h:Eg C own n m x (dH id R) f μ):Eg C own n m (.block id x) R f μ:=by
 intro c hc D w0 S γ w a hW hF hM;obtain⟨c1,rfl,h1⟩:=nf hc;refine wpIn_block (wpIn_mono (h c1 h1 D w0 S γ w a hW hF hM) fun e a' w' hE=>?_);obtain⟨D',S',γ',f',μ',g1,g2,g3,g4,g5⟩:=hE;cases e with
 |exit i =>
  simp only[dH]at g5;simp only[Exit.inBlock];by_cases hi:i=id
  ·subst hi;rw[if_pos rfl];rw[Nat.beq_refl,cond_true]at g5;exact⟨D',S',γ',f',μ',g1,g2,g3,g4,g5⟩
  ·rw[if_neg hi];rw[tY hi,cond_false]at g5;exact⟨D',S',γ',f',μ',g1,g2,g3,g4,g5⟩
 |_=>exact⟨D',S',γ',f',μ',g1,g2,g3,g4,g5⟩
theorem sj (aD:List Nat) {x:ay} (hk:u7 aD m μ.length=true) (h:Eg C own n m x R (iz aD f) (gI aD μ)):Eg C own n m x R f μ:=by
 intro c hc D w0 S γ w a hW hF hM;obtain⟨hm,hW'⟩:=zQ aD hk hW;refine wpIn_mono (h c hc D w0 S (qN aD γ) w a hW' (zR aD hF) hM) fun e a' w' hh=>?_
 obtain⟨D',S',γ',f',μ',g1,g2,g3,g4,g5⟩:=hh;exact⟨D',S',γ',f',μ',wC aD hm g1,g2,g3,g4,g5⟩
theorem CP {a:AV} {d q:Nat} (h:wS a=true):ck d q a=true:=by
 unfold wS at h;split at h
 ·cases d<;>rfl
 ·cases d<;>rfl
 ·cases h
theorem Bj {q:Nat} (h:∀b∈μ,Bi b):aP μ q=true:=by
 unfold aP;rw[List.all_eq_true];intro k hk;rw[List.all_eq_true];exact fun a ha=>CP ((h k hk).cells a ha)
theorem wT {γ:Gh} {q b:Nat} (h:b<q):b7 γ q b=γ b:=by simp[b7,h]
theorem wU {g0 f:AF} {q:Nat} {w w':World} {S S':Nat→Prop} {γ:Gh} {a:Act} (hg0:Bh q g0=true) (hsub:Sub g0 f) (hv:∀t,VR w S γ (get f t) (a.eval (.tmp t))) (t:Nat):VR w' S' (b7 γ q) (get g0 t) (a.eval (.tmp t)):=by
 rcases uY hsub t with h|h
 ·rw[h];exact .any _
 rcases sh hg0 t with h'|⟨b,gn,off,h',hb⟩
 ·rw[h'];exact .any _
 ·have hv:=hv t;rw[←h,h']at hv;rw[h'];generalize a.eval (.tmp t)=u at *;cases hv with
  |ptr _ _ _ _ e x q1 q2 q3 q4=>exact .ptr b gn off _ e x (by rw[wT hb];exact q1) q2 q3 q4
theorem EC {w:World} {S:Nat→Prop} {γ:Gh} {gid:FuncId} {bt:Nat} {e:tq} {v:Value} (h1:γ bt=some e) (h2:e.gen=0) (h:VR w S γ (.fn gid [.ptr bt 0 0]) v):v= .func (.func gid) #[] #[.pointer (some ⟨e.cb,0,none⟩)]:=by
 cases h with
 |fn _ _ us hl hat =>
  match us,hl,hat with
  |[u],_,hat =>
   have hu:=hat 0 _ _ rfl rfl;cases hu with
   |ptr _ _ _ _ e2 a2 g1 g2 g3 g4 =>
    rw[h1]at g1;injection g1 with g1
    subst g1;rw[g4 h2.symm]
  |[],hl,_=>cases hl
  |_::_::_,hl,_=>simp at hl
end
theorem pX {σ : Type} {C : Ctx} {own : Nat → Bool} {n m q bt p1 p2 : Nat} {g : bY} {xa xb : ay} {f g0 : AF} {k0 k' : σ} {fo : σ → AM} {stop : σ → Bool} {junk : AM} {gid : FuncId} {cells : List PV} {kb : dT} {rv : AV} {R : Exit → AF → AM → Prop}
    (hgv : ev f g = .fn gid [.ptr bt 0 0]) (hbt : q ≤ bt) (htb : (fo k0 ++ junk)[bt]? = some kb) (hkb : kb.cells = cells.map .pv) (hkg : kb.gen = 0) (hks : kb.sz ≠ 0) (hcal : ep C.P gid = true)
    (hlen : ∀ k, (fo k).length = q) (hlit : ∀ k b, b ∈ fo k → Bi b) (hs0 : stop k0 = false) (hg0 : Bh q g0 = true) (hsub : Sub g0 f) (hm : m ≤ q) (hp1 : p1 < n) (hp2 : p2 < n)
    (hcall : ∀ (w0 w1 : World) (S : Nat → Prop) (γ : Gh) (l : Nat) (L : Loop) (hX : (Site.mk { C with D := [] } w0 w1 S γ q l fo L stop).OK),
       (∀ v1 v2 k k1 go μ, stop k = false → stop k1 = !go →
          z6 { C with D := [] } l own n q xa (cW (fun f μ => z6 { C with D := [] } l own n q xb (CO (fo k1) go) f μ) (fun _ _ _ => False)) (put (put g0 (some p1) (.pv v1)) (some p2) (.pv v2)) (fo k) → Bc (Site.x6 _ hX) l [.pv v1, .pv v2] k μ (.pv (.bool go)) k1 μ) →
       Hv (Site.x6 _ hX) gid [.pv (.val (.func (.yield l) #[] #[])), .iptr cells 0] k0 [] rv k' [])
    (hN : stop k' = false → R .normal g0 (fo k')) (hS : stop k' = true → R .ret g0 (fo k')) : Eg C own n m (.range g [p1, p2] xa xb) R f (fo k0 ++ junk) := by
  intro c hc D w0 S γ w a hW hF hM
  obtain ⟨qo, qs, c1, c2, rfl, h0, h1, h2, h3⟩ := sf hc
  have hv := aY (w := w) (S := S) (γ := γ) (f := f) (a := a) h0 fun t _ => hF.val t
  rw [hgv] at hv
  obtain ⟨e, cs, t1, t2, t3, ⟨fz, t4, -⟩, t5, t6, t7, t8, -⟩ := hW.mem.blk bt kb htb hks
  have hcb : e.cb < w.heap.size := (Array.getElem?_eq_some_iff.mp t4).1
  have hfn := EC t1 (t2.trans hkg) hv
  have hqs : qs = #[p1, p2] := by rw [← Array.toList_inj, h1]
  refine wpIn_rangeFunc fun fn _ => ?_
  let L : Loop := { state := .ready, pending := none, fn, tmps := a.tmps, params := qs, assign := c1, body := c2, defers := w.heap.size }
  let w1 : World := (w.alloc (.deferred (some []))).alloc (.loop L)
  have hsz : w1.heap.size = w.heap.size + 2 := by simp [w1, World.size_alloc]
  have hl1 : w1.heap[w.heap.size + 1]? = some (.loop L) := by
    have := World.alloc_heap_new (w.alloc (.deferred (some []))) (.loop L)
    rwa [World.size_alloc] at this
  have hlow : ∀ g, g < w.heap.size → w1.heap[g]? = w.heap[g]? := fun g hg => by
    show ((w.heap.push _).push _)[g]? = _
    rw [Array.getElem?_push_lt (by simp; omega), Array.getElem_push_lt hg, Array.getElem?_eq_getElem hg]
  have hr1 : w1.heap[w.heap.size]? = some (.deferred (some [])) := by
    show ((w.heap.push _).push _)[w.heap.size]? = _
    rw [Array.getElem?_push_lt (by simp), Array.getElem_push_eq]
  let SX : Nat → Prop := fun g => S g ∨ g = e.cb ∨ g = w.heap.size
  have hbs := hW.below.size
  have hX : (Site.mk { C with D := [] } w0 w1 SX γ q (w.heap.size + 1) fo L stop).OK := by
    refine ⟨rfl, hW.env, hW.below.trans ⟨rfl, rfl, rfl, by show w.heap.size ≤ w1.heap.size; omega, fun g hg => hlow g (by omega)⟩, fun g hg => ?_, by show w0.heap.size ≤ w.heap.size + 1; omega, by show w.heap.size + 1 < w1.heap.size; omega, fun b e2 hb he => ?_, hlen, hlit⟩
    · show g < w1.heap.size
      rcases hg with h | h | h
      · have := hW.live g h; omega
      · omega
      · omega
    · have hb : b < q := hb
      have he : γ b = some e2 := he
      have hbl : b < (fo k0).length := by rw [hlen]; exact hb
      have hk : (fo k0 ++ junk)[b]? = some (fo k0)[b] := by rw [List.getElem?_append_left hbl]; exact List.getElem?_eq_getElem hbl
      obtain ⟨e3, q1, -, -, q4, q5, q6⟩ := hW.mem.B7 hk
      rw [he] at q1
      injection q1 with q1
      subst q1
      refine ⟨q5, by show e2.cb < w1.heap.size; omega, by show e2.cb ≠ w.heap.size + 1; omega, ?_⟩
      rintro (h | h | h)
      · exact q6 (hlit k0 _ (List.getElem_mem hbl)).frozen h
      · have := hW.mem.inj b bt e2 e he t1 h
        omega
      · omega
  have hM0 : kg w0 S (b7 γ q) (fo k0) w := by
    have := (Wd.drop hW (Bj (hlit k0))).mem
    rwa [hlen] at this
  have hnS : ∀ b e, b < (fo k0).length → b7 γ q b = some e → ¬ SX e.cb := fun b e hb he => (hX.cb b e (gz he).1 (gz he).2).2.2.2
  have hE1 : Site.E (Site.mk { C with D := [] } w0 w1 SX γ q (w.heap.size + 1) fo L stop) k0 w1 :=
    ⟨⟨rfl, rfl, rfl, Nat.le_refl _, fun _ _ _ => rfl⟩, vp hM0 (hlit k0) hnS (fun b e hb he => hlow _ (by
      have hk : (fo k0)[b]? = some (fo k0)[b] := List.getElem?_eq_getElem hb
      obtain ⟨e3, q1, -, -, q4, -, -⟩ := hM0.B7 hk
      rw [he] at q1
      injection q1 with q1
      subst q1
      exact q4)), by rw [show si L (stop k0) = L by rw [hs0]; rfl]; exact hl1⟩
  have hY := hcall w0 w1 SX γ (w.heap.size + 1) L hX fun v1 v2 k k1 go μ hk hk1 hw => hX.round (own := own) (n := n) h2 h3 hqs hp1 hp2 hF.size hg0 (fun t => wU (a := ⟨a.tmps, []⟩) hg0 hsub hF.val t) hk hk1 hw μ
  have hcalls := hY.2 w1 SX (fun _ => none) w1 [.func (.yield (w.heap.size + 1)) #[] #[], .pointer (some ⟨e.cb, 0, none⟩)]
    ⟨⟨fun b k hk => by simp at hk, fun b k hk => by simp at hk, fun _ _ => rfl, fun b b' e e' h => by cases h⟩, Below.refl _ _, hX.live, hE1⟩
    ⟨rfl, fun i x v hx hv => by
      match i, hx, hv with
      | 0, hx, hv =>
        injection hx with hx; injection hv with hv
        subst hx hv
        exact .pv _ _ (.val _)
      | 1, hx, hv =>
        injection hx with hx; injection hv with hv
        subst hx hv
        have hat : ∀ (i : Nat) p, cells[i]? = some p → ∃ v, cs[i]? = some v ∧ Is w S p v := fun i p hp => by
          obtain ⟨v, g1, g2, -⟩ := t7 i (.pv p) (by rw [hkb, List.getElem?_map, hp]; rfl)
          exact ⟨v, g1, cv g2⟩
        refine .iptr cells 0 e.cb 0 (fun i => cs.getD i undef) (.inr (.inl rfl)) (fun i p hp => ?_) fun i p hp => ?_
        · obtain ⟨v, g1, g2⟩ := hat i p hp
          have : w1.heap[e.cb]? = some (.cells cs kb.elem fz) := (hlow _ hcb).trans t4
          simp [World.cell?, this, g1]
        · obtain ⟨v, g1, g2⟩ := hat i p hp
          rw [show cs.getD i undef = v by simp [Array.getD_eq_getD_getElem?, g1]]
          exact g2.stay ⟨fun _ h => .inl h, fun g hg => hlow g (hW.live g hg)⟩
      | _ + 2, hx, _ => simp at hx⟩
    (fun g hg => by
      have h1 : EB γ q (w.heap.size + 1) g := hg
      refine ⟨(hX.CN hg).2, fun hs => ?_⟩
      rcases h1 with rfl | ⟨b, e2, hb, he, rfl⟩
      · rcases hs with h | h | h
        · have := hW.live _ h; omega
        · omega
        · omega
      · exact (hX.cb b e2 hb he).2.2.2 hs)
  refine ⟨w.heap.size + 1, [mark w.heap.size], w1, { target := .fn (.func gid) #[.pointer (some ⟨e.cb, 0, none⟩)], args := #[.func (.yield (w.heap.size + 1)) #[] #[]] }, w1, gid, _, w1, run_enterLoop_outer .., ?_, fun _ _ => trivial, ?_, (fun h => by cases h), callsIn_wide.mpr (hcalls.mono fun x w' hh => ?_)⟩
  · simp [rangeCall, resolve, Act.eval] at hfn ⊢
    simp [hfn, Deferred.ofValue]
  · have := hZ (C := C) (w := w1) hcal #[.func (.yield (w.heap.size + 1)) #[] #[], .pointer (some ⟨e.cb, 0, none⟩)]
    simpa [invoke] using this
  obtain ⟨v, w0', S', γ', rfl, hO, hE, hW', hN', hvr⟩ := hh
  obtain ⟨hNe, hM', hrec⟩ : Site.E (Site.mk { C with D := [] } w0 w1 SX γ q (w.heap.size + 1) fo L stop) k' w' := hW'.E
  have hrec : w'.heap[w.heap.size + 1]? = some (.loop (si L (stop k'))) := hrec
  have hbl := ov hrec
  have hnb : (si L (stop k')).state ≠ .busy := by
    cases stop k' <;> (simp [si])
  have hend := run_endLoop (P := C.P) hrec hnb
  generalize hw4 : w'.putObj (w.heap.size + 1) (.loop { si L (stop k') with state := .exhausted }) = w4 at hend
  have hoth : ∀ g, g ≠ w.heap.size + 1 → w4.heap[g]? = w'.heap[g]? := fun g hg => by rw [← hw4]; exact World.putObj_heap_other hg
  have hsz1 : w1.heap.size ≤ w'.heap.size := hNe.size
  have hsz4 : w4.heap.size = w'.heap.size := by rw [← hw4]; simp
  have hSXl : ∀ g, SX g → g < w1.heap.size ∧ g ≠ w.heap.size + 1 := fun g hg => ⟨hX.live g hg, by
    rcases hg with h | h | h
    · have := hW.live _ h; omega
    · omega
    · omega⟩
  have hnF : ∀ g, SX g → ¬ EB γ q (w.heap.size + 1) g := fun g hg hf => by
    rcases hf with rfl | ⟨b, e2, hb, he, rfl⟩
    · exact (hSXl _ hg).2 rfl
    · exact (hX.cb b e2 hb he).2.2.2 hg
  have h41 : ∀ g, SX g → w4.heap[g]? = w1.heap[g]? := fun g hg => (hoth g (hSXl g hg).2).trans (hNe.block g (hSXl g hg).1 (hnF g hg))
  have hE4 : fZ m w S γ w4 SX (b7 γ q) := by
    refine ⟨⟨fun g h => .inl h, fun g hg => (h41 g (.inl hg)).trans (hlow g (hW.live g hg))⟩, fun b e2 hb he => ⟨e2, by rw [wT (by omega)]; exact he, Nat.le_refl _, fun _ => rfl⟩, fun g hg => ?_, fun b e2 he => .inl ⟨b, e2, (gz he).2, rfl⟩, by omega, fun g hg hn => ?_⟩
    rcases hg with h | rfl | rfl
    · exact .inl h
    · exact .inr (.inl ⟨bt, e, t1, rfl⟩)
    · exact .inr (.inr (Nat.le_refl _))
    · have h1 : g ≠ w.heap.size + 1 := by omega
      rw [hoth g h1, hNe.block g (by show g < w1.heap.size; omega) fun hf => ?_]
      · exact hlow g hg
      · rcases hf with rfl | ⟨b, e2, _, he, hh⟩
        · exact h1 rfl
        · exact hn b e2 he hh
  have hWd : Wd C w0 SX (b7 γ q) (fo k') w4 := by
    rw [← hw4]
    exact hbl.wd ⟨hM', hX.ox hNe, fun g hg => by have := (hSXl g hg).1; omega, hW.env⟩ (by omega)
  have hFR : FR (mark w.heap.size :: D) n w4 SX (b7 γ q) g0 { a with defers := [mark w.heap.size] ++ a.defers } := ⟨hF.size, by rw [← hF.defers]; rfl, fun t => wU (a := a) hg0 hsub hF.val t⟩
  have hMk : Mk w0 SX w4 (mark w.heap.size :: D) := by
    obtain ⟨l, rfl, hnd, hl⟩ := hM
    refine ⟨w.heap.size :: l, rfl, List.nodup_cons.mpr ⟨fun h => ?_, hnd⟩, fun r hr => ?_⟩
    · have := hW.live _ (hl _ h).1
      omega
    · rcases List.mem_cons.mp hr with rfl | hr
      · exact ⟨.inr (.inr rfl), hbs, (h41 _ (.inr (.inr rfl))).trans hr1⟩
      · obtain ⟨q1, q2, q3⟩ := hl r hr
        exact ⟨.inl q1, q2, (h41 r (.inl q1)).trans ((hlow r (hW.live r q1)).trans q3)⟩
  cases hst : stop k' with
  | false =>
    refine ⟨_, _, hend, ?_⟩
    rw [hst]
    exact ⟨_, SX, _, g0, _, hE4, hWd, hFR, hMk, hN hst⟩
  | true =>
    refine ⟨_, _, hend, ?_⟩
    rw [hst]
    exact wpIn_ret ⟨_, SX, _, g0, _, hE4, hWd, hFR, hMk, hS hst⟩
theorem aN.ED {C:Ctx} {g:FuncId} {as:List AV} {μ μ':AM} {r:AV} (h:aN C g as μ r μ') (D:List Deferred):aN {C with D:=D} g as μ r μ' :=
 ⟨h.1,fun w0 S γ w vs hW hp=>(h.2 w0 S γ w vs ⟨hW.mem,hW.below,hW.live,hW.env⟩ hp).mono fun e w' ⟨v,S',γ',h1,h2,h3,h4⟩=>⟨v,S',γ',h1,h2,⟨h3.mem,h3.below,h3.live,h3.env⟩,h4⟩⟩
def shut:List Nat→World→World
 |[],w=>w
 |r::l,w=>shut l (w.putObj r (.deferred none))
theorem pb {P:Program} {fn:Func} {tmps:Array Value} {R:Ending→World→Prop}:∀(l:List Nat) (w:World),l.Nodup→(∀r∈l,w.heap[r]?=some (.deferred (some []))) →
  LeavesIn Fence.wide 1 P fn tmps R [] .returning (shut l w)→LeavesInM Fence.wide 1 P fn tmps R (l.map mark) .returning w
 |[],_,_,_,h=>h
 |r::l,w,hn,hl,h=>by
  obtain⟨h1,h2⟩:=List.nodup_cons.mp hn;refine⟨by simp,.inl ⟨r,_,rfl,run_takeDeferred (hl r List.mem_cons_self),pb l _ h2 (fun r' hr'=>?_) h⟩⟩;rw[World.putObj_heap_other (by rintro rfl;exact h1 hr')];exact hl r' (List.mem_cons_of_mem _ hr')
theorem Aa {C:Ctx} {w0:World} {S:Nat→Prop} {γ:Gh} {μ:AM}:∀(l:List Nat) (w:World),l.Nodup→(∀r∈l,w0.heap.size≤r∧w.heap[r]?=some (.deferred (some [])))→Wd C w0 S γ μ w →
  Wd C w0 S γ μ (shut l w)∧(shut l w).heap.size=w.heap.size∧∀a v,VR w S γ a v→VR (shut l w) S γ a v
 |[],w,_,_,h=>⟨h,rfl,fun _ _ h=>h⟩
 |r::l,w,hn,hl,h=>by
  obtain⟨h1,h2⟩:=List.nodup_cons.mp hn;have hr:=hl r List.mem_cons_self;have hbl:=Be hr.2;obtain⟨q1,q2,q3⟩:=Aa l (w.putObj r (.deferred none)) h2 (fun r' hr'=>⟨(hl r' (List.mem_cons_of_mem _ hr')).1,by
   rw[World.putObj_heap_other (by rintro rfl;exact h1 hr')];exact(hl r' (List.mem_cons_of_mem _ hr')).2⟩) (hbl.wd h hr.1)
  exact⟨q1,q2.trans (by simp),fun a v hv=>q3 a v (hbl.vr hv)⟩
theorem oy {C:Ctx} {own:Nat→Bool} {n k:Nat} {fid:FuncId} {rs:List jZ} {x:ay} {ps:List PV} {r:PV} (h:Fn C fid own n k rs x) (hk:ps.length=k) (hb:Eg C own n 0 x (my rs r) (jK 0 (ps.map .pv)) []):aj C fid ps r:=by
 obtain⟨fn,c,h1,h2,h3,h4,h5,h6,h7⟩:=h.ex;refine⟨h7,fun w S us hE hS hp=>?_⟩;have hW:Wd C w S (fun _=>none) [] w:=⟨⟨fun b k hk=>by simp at hk,fun b k hk=>by simp at hk,fun _ _=>rfl,fun b b' e e' h=>by cases h⟩,Below.refl _ _,hS,hE⟩
 have hpv:PW (VR w S (fun _=>none)) (ps.map .pv) us:=PW.jI hp;have hus:us.length≤fn.ntmps:=by rw[←hp.len];omega
 refine callsIn_wide.mp (callsIn_of_wp_marks (F:=Fence.wide) (n:=1) h1 h2 trivial (wpIn_mono (hb c h3 [] w S (fun _=>none) w _ hW (by rw[←h5];exact lq hpv hus) ⟨[],rfl,List.nodup_nil,fun _ h=>by cases h⟩) fun e a' w' hh=>?_));obtain⟨D,S',γ',f',μ',g1,g2,g3,⟨l,rfl,gn,gl⟩,g4⟩:=hh;have fin:mT μ' r (bw f' μ' rs)→LeavesInM Fence.wide 1 C.P fn a'.tmps (fun e w'=>∃v,e= .returned v∧Below w.heap.size w w'∧Is w' (fun g=>S g∨(w.heap.size≤g∧g<w'.heap.size)) r v) a'.defers .returning w':=by
  intro hret;unfold mT at hret;split at hret
  ·rename_i vc v e1;obtain⟨e2,e3⟩:=hret;rw[g3.defers];refine pb l w' gn (fun r hr=>(gl r hr).2.2) ?_;obtain⟨s1,s2,s3⟩:=Aa l w' gn (fun r hr=>(gl r hr).2) g2;generalize shut l w'=w2 at *;obtain⟨u,hu,hv⟩:=ko (a:={a' with defers:=[]}) s1 (⟨g3.size,h.dz.symm,fun t=>s3 _ _ (g3.val t)⟩:FR C.D n w2 S' γ' f' {a' with defers:=[]}) h4 e1 e2;refine⟨u,hu,u,rfl,s1.below,(u0 s1 depth e3 hv).stay ⟨fun g hg=>?_,fun _ _=>rfl⟩⟩;rcases hg with hg|⟨b,e,he,rfl⟩
   ·rcases g1.more g hg with h|⟨b,e,h,-⟩|h
    ·exact .inl h
    ·cases h
    ·exact .inr ⟨h,s1.live g hg⟩
   ·rcases g1.cbs b e he with⟨b0,e0,h,-⟩|h
    ·cases h
    ·exact .inr ⟨h,s1.jw he⟩
  ·exact hret.elim
 cases e with
 |normal=>exact fin g4
 |ret=>exact fin g4
 |_=>exact g4.elim
end
end Pur
end Go.Proofs.YtaleoeblooeglaaGreatDoor
