/-
  Part of the proofs of TraceFigures and TraceCounts (PurN PurO PurP PurQ PurR PurS PurT PurSF PurSG PurU PurV PurW PurY PurZ PurZA PurAA PurAB PurAC PurAD)
-/
import Derived.Test.YtfgcmogbdcifeaaGreatDoorP00
import Derived.Orders
import Derived.LoopN
set_option maxRecDepth 10000
set_option linter.unusedSimpArgs false
set_option linter.unusedVariables false
namespace Go.Proofs.YtfgcmogbdcifeaaGreatDoor
namespace Pur
open Go.RowKit
section
section
variable {C:Ctx} {w0 w:World} {S:Nat→Prop} {γ:Gh} {μ:AM} {f:AF} {a:Act} {o:Oper}
theorem Aj {g:FuncId} {ps:List PV} {r:PV} {as:List AV} {us:List Value} {frz:Bool} (hW:Wd C w0 S γ μ w) (hX:ah C g ps r) (ht:gI μ as=some ps) (hv:PW (VR w S γ) as us) :
  Calls C.P g us.toArray w fun e w'=>∃u S',e= .returned u∧Ext w S γ w' S' γ∧Wd C w0 S' γ (after μ frz as r) w'∧VR w' S' γ (.pv r) u:=by
 have hlive:∀g,Seen S γ (refsOf as) g→g<w.heap.size:=fun g h=>by
  rcases h with h|⟨b,-,e,he,rfl⟩
  ·exact hW.live g h
  exact hW.fY he
 refine(hX.2 w (Seen S γ (refsOf as)) us hW.E hlive (BK hW ht hv)).mono fun e w' h=>?_
 obtain⟨u,rfl,hb,hi⟩:=h;have plain:(Is w' (fun g=>S g∨(w.heap.size≤g∧g<w'.heap.size)) r u)→∃S',Ext w S γ w' S' γ∧Wd C w0 S' γ μ w'∧VR w' S' γ (.pv r) u:=fun hi'=>by
  obtain⟨h1,h2⟩:=hW.behind (T:=fun g=>S g∨(w.heap.size≤g∧g<w'.heap.size)) hb (fun _ h=>.inl h) (fun g h=>by
   rcases h with h|h
   ·have:=hW.live g h;have:=hb.size;omega
   ·exact h.2) (μ':=μ) rfl (fun b k h=>⟨k,h,rfl,rfl,rfl,rfl,fun h=>h⟩) (fun g h=>h.elim .inl fun h=>.inr (.inr h.1)) (fun b k e _ _ he hT=>by
   rcases hT with h|h
   ·exact h
   have:=hW.fY he;omega)
  exact⟨_,h2,h1,.pv _ _ hi'⟩
 have frozen:∃S',Ext w S γ w' S' γ∧Wd C w0 S' γ (freeze μ (refsOf as)) w'∧VR w' S' γ (.pv r) u:=by
  obtain⟨f1,f2⟩:=jA (refsOf as) μ;obtain⟨h1,h2⟩:=hW.behind (T:=fun g=>Seen S γ (refsOf as) g∨(w.heap.size≤g∧g<w'.heap.size)) hb (fun _ h=>.inl (.inl h)) (fun g h=>by
   rcases h with h|h
   ·have:=hlive g h;have:=hb.size;omega
   ·exact h.2) f1 (fun b k' h=>by
    obtain⟨k,g1,g2,g3,g4,g5,g6⟩:=f2 b k' h;exact⟨k,g1,g2,g3,g4,g5,fun h=>(g6 h).1⟩) (fun g h=>by
   rcases h with(h|⟨b,-,e,h1,h2⟩)|h
   ·exact .inl h
   ·exact .inr (.inl ⟨b,e,h1,h2⟩)
   ·exact .inr (.inr h.1)) (fun b k' e hk' hf he hT=>by
   obtain⟨k,g1,g2,g3,g4,g5,g6⟩:=f2 b k' hk';rcases hT with(h|⟨b',hb',e',he',hcc⟩)|h
   ·exact h
   ·have:=hW.mem.inj b' b e' e he' he hcc;subst this;exact absurd hb' (g6 hf).2
   have:=hW.fY he;omega)
  exact⟨_,h2,h1,.pv _ _ hi⟩
 have done:∀{μ'},(∃S',Ext w S γ w' S' γ∧Wd C w0 S' γ μ' w'∧VR w' S' γ (.pv r) u)→after μ frz as r=μ'→∃u' S',Ending.returned u= .returned u'∧Ext w S γ w' S' γ∧Wd C w0 S' γ (after μ frz as r) w'∧VR w' S' γ (.pv r) u':=by
  intro μ' h he;subst he;obtain⟨S',h1,h2,h3⟩:=h;exact⟨u,S',rfl,h1,h2,h3⟩
 cases hr:refsOf as with
 |nil =>
  refine done (plain (hi.stay ⟨fun g h=>?_,fun _ _=>rfl⟩)) (by simp[after,hr]);rcases h with(h|⟨b,hb',-⟩)|h
  ·exact .inl h
  ·rw[hr]at hb';cases hb'
  exact .inr h
 |cons b0 bs =>
  cases frz with
  |true=>exact done frozen (by simp[after,hr])
  |false =>
   cases hsc:scalar r with
   |true=>exact done (plain (xI hsc hi)) (by simp[after,hr,hsc])
   |false=>exact done frozen (by simp[after,hr,hsc])
theorem nQ {g:FuncId} (h:eU C.P g=true) (args:Array Value):(callFunc g args).run C.P w= .ok (.enter g args) w:=by
 unfold eU at h;cases hf:C.P.funcs[g]? with
 |none=>rw[hf]at h;cases h
 |some fn =>
  rw[hf]at h;simp only[Bool.and_eq_true,Bool.not_eq_true']at h;have hb:fn.body≠none:=by
   cases hbb:fn.body with
   |none=>rw[hbb]at h;simp at h
   |some c=>simp
  have hn : fn.name ≠ "runtime.NumGoroutine" := by simpa using h.2
  simp[callFunc,hf,hn,hb]
theorem jB {c:Call} {g:FuncId} {first args caps:Array Value} {K':Act→World→Prop} {Q:Exit→Act→World→Prop} {R:Value→World→Prop} (ho:o.op= .call c) (hc:eU C.P g=true)
  (hv:∃x,c.callee= .value x∧a.eval x= .func (.func g) first caps) (ha:c.args.map a.eval=args) (h:Calls C.P g (first++args++caps) w fun e w'=>∃u,e= .returned u∧R u w') (hK:∀u w',R u w'→K' (a.put o.dst u) w'):o.wp C.P a w K' Q:=by
 obtain⟨x,h1,h2⟩:=hv;obtain⟨callee,args0,ts⟩:=c;simp only at h1 ha;subst h1;have hr:(execOp a.eval o).run C.P w= .ok (.enter g (first++args++caps)) w:=by
  simp[execOp,ho,resolve,h2,Deferred.ofValue,invoke,nQ hc,ha]
 unfold Oper.wp;rw[hr,Oper.upon_enter];refine h.mono fun e w' h=>?_
 obtain⟨u,rfl,hR⟩:=h;exact hK u w' hR
theorem yW {v:AV} {μ':AM} {K':Act→World→Prop} {Q:Exit→Act→World→Prop} (h:cq C w0 o a S γ v μ' w) (hK:∀u w' S' γ',Ext w S γ w' S' γ'→Wd C w0 S' γ' μ' w'→VR w' S' γ' v u→K' (a.put o.dst u) w'):o.wp C.P a w K' Q:=by
 obtain⟨r,u,w',S',γ',hr,hu,hE,hW',hv⟩:=h;unfold Oper.wp;rw[hr];rcases hu with rfl|⟨rfl,rfl⟩
 ·exact hK u w' S' γ' hE hW' hv
 exact hK undef w' S' γ' hE hW' hv
theorem il {c:Call} {g:FuncId} {as:List AV} {us:List Value} {first args caps:Array Value} {h:Hint} {vc:VC} {pr:List Prop} {v:AV} {μ':AM} {K':Act→World→Prop} {Q:Exit→Act→World→Prop} (hW:Wd C w0 S γ μ w) (ho:o.op= .call c)
  (hcal:∃x,c.callee= .value x∧a.eval x= .func (.func g) first caps) (ha:c.args.map a.eval=args) (hus:us.toArray=first++args++caps) (hv:PW (VR w S γ) as us)
  (he:dW (ah C) (aA C) μ h g as=some (vc,pr,v,μ')) (hpr:aP pr) (hK:∀u w' S' γ',Ext w S γ w' S' γ'→Wd C w0 S' γ' μ' w'→VR w' S' γ' v u→K' (a.put o.dst u) w'):o.wp C.P a w K' Q:=by
 unfold dW at he;split at he
 ·cases he
 rename_i v' _;split at he
 ·rename_i m _;injection he with he;injection he with e1 e2;injection e2 with e2 e3;injection e3 with e3 e4
  subst e1 e2 e3 e4;have hY:=hpr.1;refine jB ho hY.1 hcal ha (R:=fun u w'=>∃S' γ',Ext w S γ w' S' γ'∧Wd C w0 S' γ' m w'∧VR w' S' γ' v' u) ?_ fun u w' hh=>by obtain⟨S',γ',h1,h2,h3⟩:=hh;exact hK u w' S' γ' h1 h2 h3
  rw[←hus];refine(hY.2 w0 S γ w us hW hv).mono fun e w' hh=>?_
  obtain⟨u,S',γ',h1,h2,h3,h4⟩:=hh;exact⟨u,h1,S',γ',h2,h3,h4⟩
 split at he
 ·injection he with he;injection he with e1 e2;injection e2 with e2 e3;injection e3 with e3 e4
  subst e1 e2 e3 e4;have hY:=hpr.1;refine jB ho hY.1 hcal ha (R:=fun u w'=>∃S' γ',Ext w S γ w' S' γ'∧Wd C w0 S' γ' μ w'∧VR w' S' γ' v' u) ?_ fun u w' hh=>by obtain⟨S',γ',h1,h2,h3⟩:=hh;exact hK u w' S' γ' h1 h2 h3
  rw[←hus];refine(hY.2 w0 S γ w us hW hv).mono fun e w' hh=>?_
  obtain⟨u,S',γ',h1,h2,h3,h4⟩:=hh;exact⟨u,h1,S',γ',h2,h3,h4⟩
 split at he
 ·rename_i r _;have fin:∀{ps:List PV},gI μ as=some ps→ah C g ps r→after μ h.frz as r=μ'→v= .pv r→o.wp C.P a w K' Q:=by
   intro ps h1 h2 h3 h4;subst h3 h4;refine jB ho h2.1 hcal ha (R:=fun u w'=>∃S',Ext w S γ w' S' γ∧Wd C w0 S' γ (after μ h.frz as r) w'∧VR w' S' γ (.pv r) u) ?_ fun u w' hh=>by obtain⟨S',h1,h2,h3⟩:=hh;exact hK u w' S' γ h1 h2 h3
   rw[←hus];refine(Aj (frz:=h.frz) hW h2 h1 hv).mono fun e w' hh=>?_
   obtain⟨u,S',h1,h2,h3,h4⟩:=hh;exact⟨u,h1,S',h2,h3,h4⟩
  split at he
  ·rename_i ps _;injection he with he;injection he with e1 e2;injection e2 with e2 e3;injection e3 with e3 e4
   subst e1 e2;exact fin hpr.1 hpr.2.1 e4 e3.symm
  split at he
  ·rename_i ps hps;injection he with he;injection he with e1 e2;injection e2 with e2 e3;injection e3 with e3 e4
   subst e1 e2;exact fin hps hpr.1 e4 e3.symm
  cases he
 cases he
theorem PW.append {α β:Type} {R:α→β→Prop} {l l':List α} {m m':List β} (h:PW R l m) (h':PW R l' m'):PW R (l++l') (m++m'):=by
 refine⟨by rw[List.length_append,List.length_append,h.len,h'.len],fun i x y h1 h2=>?_⟩;by_cases hi:i<l.length
 ·rw[List.getElem?_append_left hi]at h1;rw[List.getElem?_append_left (by rw[←h.len];exact hi)]at h2;exact h.at_ i x y h1 h2
 rw[List.getElem?_append_right (by omega)]at h1;rw[List.getElem?_append_right (by rw[←h.len];omega),←h.len]at h2;exact h'.at_ _ x y h1 h2
def um:K→Bool
 | .call _ _=>true
 | .callv _ _=>true
 |_=>false
theorem xJ {P:Program} {op:BinOp} {t:TypeId} {x y:Operand} {k:K} (hk:ie P op t x y=some k) (h:um k=true):False:=by
 unfold ie at hk;repeat' split at hk
 all_goals first
  |(cases hk;done)
  |(injection hk with hk;subst hk;cases h;done)
  |(obtain⟨_,hk2⟩:=aQ hk;cases hk2;done)
  |(simp at hk;done)
  |(
   obtain⟨_,hk⟩:=bE hk;repeat' split at hk
   all_goals first
    |(cases hk;done)
    |(injection hk with hk;subst hk;cases h;done))
theorem qR {P:Program} {b:Builtin} {xs:List Operand} {ts:List TypeId} {k:K} (hk:eT P b xs ts=some k) (h:um k=true):False:=by
 unfold eT at hk;repeat' split at hk
 all_goals first
  |(cases hk;done)
  |(injection hk with hk;subst hk;cases h;done)
  |(obtain⟨_,hk2⟩:=aQ hk;cases hk2;done)
  |(obtain⟨_,hk⟩:=aQ hk;injection hk with hk;subst hk;cases h;done)
theorem lN {P:Program} {c:Call} {k:K} (hk:pV P c=some k):dX P c=some k∨∃g as,c.callee= .value (.func g)∧fv c.args.toList=some as∧k= .callB g as:=by
 unfold pV at hk;split at hk
 ·rename_i g hc;obtain⟨y,h1,h2⟩:=map_some hk;exact .inr ⟨g,y,hc,h1,h2.symm⟩
 exact .inl hk
theorem fL {P:Program} {own:Bool} {op:Op} {k:K} (hk:jx P own op=some k) (h:um k=true):∃c,op= .call c∧dX P c=some k:=by
 cases op<;>simp only[jx]at hk;case call c =>
  split at hk
  ·rcases lN hk with hk|⟨g,as,-,-,rfl⟩
   ·exact⟨c,rfl,hk⟩
   cases h
  exact⟨c,rfl,hk⟩
 all_goals exfalso
 all_goals repeat' split at hk
 all_goals first
  |(cases hk;done)
  |(exact xJ hk h)
  |(rename_i heq _;cases heq;done)
  |(rename_i heq;cases heq;done)
  |(injection hk with hk;subst hk;cases h;done)
  |(obtain⟨_,hk2⟩:=aQ hk;cases hk2;done)
  |(obtain⟨_,_,h2⟩:=map_some hk;subst h2;cases h;done)
  |(obtain⟨_,hk⟩:=aQ hk;injection hk with hk;subst hk;cases h;done)
  |(obtain⟨_,hk⟩:=aQ hk;obtain⟨_,_,h2⟩:=map_some hk;subst h2;cases h;done)
  |(rcases qQ hk with⟨_,h2⟩|⟨_,h2⟩<;>(subst h2;cases h))
def BL:K→Bool
 | .callB _ _=>true
 |_=>false
theorem xK {P:Program} {op:BinOp} {t:TypeId} {x y:Operand} {k:K} (hk:ie P op t x y=some k) (h:BL k=true):False:=by
 unfold ie at hk;repeat' split at hk
 all_goals first
  |(cases hk;done)
  |(injection hk with hk;subst hk;cases h;done)
  |(obtain⟨_,hk2⟩:=aQ hk;cases hk2;done)
  |(simp at hk;done)
  |(
   obtain⟨_,hk⟩:=bE hk;repeat' split at hk
   all_goals first
    |(cases hk;done)
    |(injection hk with hk;subst hk;cases h;done))
theorem py {P:Program} {c:Call} {k:K} (hk:dX P c=some k) (h:BL k=true):False:=by
 unfold dX at hk;split at hk
 ·obtain⟨_,_,h2⟩:=map_some hk;subst h2;cases h
 ·obtain⟨_,_,h2⟩:=map_some hk;subst h2;cases h
 ·cases hk
 ·cases hk
 unfold eT at hk;repeat' split at hk
 all_goals first
  |(cases hk;done)
  |(injection hk with hk;subst hk;cases h;done)
  |(obtain⟨_,hk2⟩:=aQ hk;cases hk2;done)
  |(obtain⟨_,hk⟩:=aQ hk;injection hk with hk;subst hk;cases h;done)
theorem vL {P:Program} {own:Bool} {op:Op} {g:FuncId} {as:List cn} (hk:jx P own op=some (.callB g as)):∃c,op= .call c∧c.callee= .value (.func g)∧fv c.args.toList=some as:=by
 have h:BL (.callB g as)=true:=rfl;generalize hk0:K.callB g as=k at hk h;cases op<;>simp only[jx]at hk;case call c =>
  split at hk
  ·rcases lN hk with hk|⟨g',as',h1,h2,rfl⟩
   ·exact(py hk h).elim
   injection hk0 with e1 e2
   subst e1 e2;exact⟨c,rfl,h1,h2⟩
  exact(py hk h).elim
 all_goals exfalso
 all_goals repeat' split at hk
 all_goals first
  |(cases hk;done)
  |(exact xK hk h)
  |(rename_i heq _;cases heq;done)
  |(rename_i heq;cases heq;done)
  |(injection hk with hk;subst hk;cases h;done)
  |(obtain⟨_,hk2⟩:=aQ hk;cases hk2;done)
  |(obtain⟨_,_,h2⟩:=map_some hk;subst h2;cases h;done)
  |(obtain⟨_,hk⟩:=aQ hk;injection hk with hk;subst hk;cases h;done)
  |(obtain⟨_,hk⟩:=aQ hk;obtain⟨_,_,h2⟩:=map_some hk;subst h2;cases h;done)
  |(rcases qQ hk with⟨_,h2⟩|⟨_,h2⟩<;>(subst h2;cases h))
theorem fM {P:Program} {c:Call} {k:K} (hk:dX P c=some k) (h:um k=true) :
  (∃g as,c.callee= .value (.func g)∧fv c.args.toList=some as∧k= .call g as)∨(∃t as,c.callee= .value (.tmp t)∧fv c.args.toList=some as∧k= .callv (.t t) as):=by
 unfold dX at hk;split at hk
 ·rename_i g hc;obtain⟨y,h1,h2⟩:=map_some hk;exact .inl ⟨g,y,hc,h1,h2.symm⟩
 ·rename_i t hc;obtain⟨y,h1,h2⟩:=map_some hk;exact .inr ⟨t,y,hc,h1,h2.symm⟩
 ·cases hk
 ·cases hk
 exact(qR hk h).elim
theorem jC {own:Bool} {k:K} {h:Hint} {vc:VC} {pr:List Prop} {v:AV} {μ':AM} {K':Act→World→Prop} {Q:Exit→Act→World→Prop} (hW:Wd C w0 S γ μ w) (hk:jx C.P own o.op=some k)
  (he:bG (ah C) (aA C) f μ h k=some (vc,pr,v,μ')) (hvc:aI vc) (hpr:aP pr) (hf:Reads w S γ f a k) (hK:∀u w' S' γ',Ext w S γ w' S' γ'→Wd C w0 S' γ' μ' w'→VR w' S' γ' v u→K' (a.put o.dst u) w'):o.wp C.P a w K' Q:=by
 have other:∀{k:K},jx C.P own o.op=some k→Reads w S γ f a k→(match cT f μ h.mode k with
   |some (vc,v,μ')=>match h.val with
    |some v'=>some (vc,[v=v'],v',μ')
    |none=>some (vc,[],v,μ')
   |none=>none)=some (vc,pr,v,μ')→o.wp C.P a w K' Q:=by
  intro k hk hf he;split at he
  ·rename_i vc' v' m hev;split at he
   ·injection he with he;injection he with e1 e2;injection e2 with e2 e3;injection e3 with e3 e4
    subst e1 e2 e3 e4;have:=hpr.1;subst this;exact yW (tu hW hk hev hvc hf) hK
   injection he with he;injection he with e1 e2;injection e2 with e2 e3;injection e3 with e3 e4
   subst e1 e2 e3 e4;exact yW (tu hW hk hev hvc hf) hK
  cases he
 cases k with
 |call g as =>
  obtain⟨c,hop,hcc⟩:=fL hk rfl;rcases fM hcc rfl with⟨g',as',hc1,hc2,he'⟩|⟨t,as',hc1,hc2,he'⟩
  ·injection he' with e1 e2
   subst e1 e2;have hv:=ij (w:=w) (S:=S) (γ:=γ) (f:=f) (a:=a) hc2 fun t ht=>hf t (by simpa [tmpsOf]using ht)
   simp only[bG]at he;refine il (first:=#[]) (args:=c.args.map a.eval) (caps:=#[]) hW hop ⟨_,hc1,rfl⟩ rfl ?_ hv he hpr hK;simp[←Array.toList_map]
  cases he'
 |callv x as =>
  obtain⟨c,hop,hcc⟩:=fL hk rfl;rcases fM hcc rfl with⟨g',as',hc1,hc2,he'⟩|⟨t,as',hc1,hc2,he'⟩
  ·cases he'
  injection he' with e1 e2
  subst e1 e2;have hv:=ij (w:=w) (S:=S) (γ:=γ) (f:=f) (a:=a) hc2 fun t ht=>hf t (by simp[tmpsOf,ht])
  have hx:=hf t (by simp[tmpsOf,fi]);simp only[bG]at he;split at he
  ·rename_i g caps hg;simp only[ev]at hg;rw[hg]at hx;generalize hxe:a.eval (.tmp t)=xv at hx;cases hx with
   |fn _ _ cs hl hat =>
    refine il (first:=#[]) (args:=c.args.map a.eval) (caps:=cs.toArray) hW hop ⟨_,hc1,hxe⟩ rfl ?_ (hv.append ⟨hl,hat⟩) he hpr hK;simp[←Array.toList_map]
  ·rename_i g first hg
   simp only[ev]at hg;rw[hg]at hx;generalize hxe:a.eval (.tmp t)=xv at hx;cases hx with
   |bm _ _ cs hl hat =>
    refine il (first:=cs.toArray) (args:=c.args.map a.eval) (caps:=#[]) hW hop ⟨_,hc1,hxe⟩ rfl ?_ (PW.append ⟨hl,hat⟩ hv) he hpr hK;simp[←Array.toList_map]
  ·rename_i g hg;simp only[ev]at hg;rw[hg]at hx;have hx:=dq hx;refine il (first:=#[]) (args:=c.args.map a.eval) (caps:=#[]) hW hop ⟨_,hc1,hx⟩ rfl ?_ hv he hpr hK;simp[←Array.toList_map]
  cases he
 |callB g as =>
  obtain⟨c,hop,hc1,hc2⟩:=vL hk;have hv:=ij (w:=w) (S:=S) (γ:=γ) (f:=f) (a:=a) hc2 fun t ht=>hf t (by simpa [tmpsOf]using ht)
  simp only[bG]at he;split at he
  ·rename_i v' _;injection he with he;injection he with e1 e2;injection e2 with e2 e3;injection e3 with e3 e4
   subst e1 e2 e3 e4;have hY:=hpr.1;refine jB (first:=#[]) (args:=c.args.map a.eval) (caps:=#[]) hop hY.1 ⟨_,hc1,rfl⟩ rfl (R:=fun u w'=>∃S' γ',Ext w S γ w' S' γ'∧Wd C w0 S' γ' (dn μ h) w'∧VR w' S' γ' v' u) ?_ fun u w' hh=>by obtain⟨S',γ',h1,h2,h3⟩:=hh;exact hK u w' S' γ' h1 h2 h3
   have hus:(c.args.toList.map a.eval).toArray=#[]++c.args.map a.eval++#[]:=by simp[←Array.toList_map]
   rw[←hus];refine(hY.2 w0 S γ w _ hW hv).mono fun e w' hh=>?_
   obtain⟨u,S',γ',h1,h2,h3,h4⟩:=hh;exact⟨u,h1,S',γ',h2,h3,h4⟩
  cases he
 |_=>exact other hk hf he
end
end
section
section
variable {C:Ctx} {w0 w:World} {S:Nat→Prop} {γ:Gh} {μ:AM} {f:AF} {a:Act} {o:Oper} {ops:Array Oper}
def eY (o:bx):List Nat:=match o.guard with
 |none=>tmpsOf o.k
 |some (t,_)=>t::tmpsOf o.k
def ly (P:Program) (ops:Array Oper) (o:Oper) (a:Act) (w:World) (K':Act→World→Prop) (Q:Exit→Act→World→Prop):Prop :=
 if Region.wanted o (yielded ops a.tmps) then o.wp P a w K' Q else K' (a.put o.dst undef) w
theorem BM {t:Nat} {v:Value} (h:a.eval (.tmp t)=v) (hv:v≠undef):a.tmps[t]?=some v:=by
 simp only[Act.eval,Array.getD_eq_getD_getElem?]at h;cases ht:a.tmps[t]? with
 |none=>rw[ht]at h;exact absurd h.symm hv
 |some x=>rw[ht]at h;simp at h;rw[h]
theorem ey {j t:Nat} {b:Bool} (hj:(ops[j]?).bind (·.dst)=some t) (h:a.eval (.tmp t)= .bool b):yielded ops a.tmps j=some b:=by
 unfold yielded;rw[hj];simp only[Option.bind_some];rw[BM h (by simp[undef])]
theorem sX {j t:Nat} (hj:(ops[j]?).bind (·.dst)=some t) (h:a.eval (.tmp t)=undef):yielded ops a.tmps j=none:=by
 unfold yielded;rw[hj];simp only[Option.bind_some];simp only[Act.eval,Array.getD_eq_getD_getElem?]at h;cases ht:a.tmps[t]? with
 |none=>rfl
 |some x=>rw[ht]at h;simp at h;subst h;rfl
theorem cJ {own:Nat→Bool} {n:Nat} {ao:bx} (h:eu C.P own n ops o=some ao) :
  ∃ow,jx C.P ow o.op=some ao.k∧ao.dst=o.dst∧(∀t,o.dst=some t→t<n)∧((o.guard=none∧ao.guard=none)∨∃j want t,o.guard=some (j,want)∧(ops[j]?).bind (·.dst)=some t∧ao.guard=some (t,want)):=by
 unfold eu at h;split at h
 ·cases h
 rename_i k hk;have hdst:(match o.dst with|some d=>Nat.blt d n|none=>true)=true→∀t,o.dst=some t→t<n:=fun hd t ht=>by
  rw[ht]at hd;exact Nat.blt_eq.mp hd
 split at h
 ·rename_i hd hg;injection h with h;subst h
  exact⟨_,hk,rfl,hdst hd,.inl ⟨hg,rfl⟩⟩
 ·rename_i j want hd hg;split at h
  ·rename_i t ht;injection h with h;subst h
   exact⟨_,hk,rfl,hdst hd,.inr ⟨j,want,t,hg,ht,rfl⟩⟩
  cases h
 cases h
theorem vM:∀(ts:List Nat) (t:Nat),get (aN f ts) t=if t∈ts then (match get f t with| .ifb _ v=>v|v=>v) else get f t
 |[],t=>by simp[aN]
 |s::r,t=>by
  have ih:=vM r t;simp only[aN];by_cases hst:s=t
  ·subst hst;split
   ·rename_i c v hg;simp[get,hg]
   rename_i hno;rw[ih,if_pos (List.mem_cons_self)];split
   ·rfl
   split
   ·rename_i c v hg;exact absurd hg (hno c v)
   rfl
  have hne:Nat.beq s t=false:=by
   rw[Bool.eq_false_iff];exact fun hb=>hst (Nat.eq_of_beq_eq_true hb)
  have hmem:(t∈s::r)↔t∈r:=by
   simp only[List.mem_cons];exact⟨fun h=>h.resolve_left fun h=>hst h.symm,.inr⟩
  have hif:(if t∈s::r then (match get f t with| .ifb _ v=>v|v=>v) else get f t)=if t∈r then (match get f t with| .ifb _ v=>v|v=>v) else get f t:=by simp only[hmem]
  rw[hif];split
  ·rename_i c v hg;show get ((s,v)::aN f r) t=_;rw[get,hne,cond_false];exact ih
  exact ih
theorem oR {c:Bool}:∀{ts:List Nat},aP (conds c f ts)→∀t∈ts,∀c' v,get f t= .ifb c' v→c=true→c'=true
 |s::r,h,t,ht,c',v,hg,hc=>by
  simp only[conds]at h;cases ht with
  |head =>
   rw[hg]at h;exact h.1 hc
  |tail _ ht =>
   split at h
   ·exact oR h.2 t ht c' v hg hc
   exact oR h t ht c' v hg hc
theorem lO {c:Bool} {k:K} (hc:c=true) (h:aP (conds c f (tmpsOf k))) (hf:Reads w S γ f a k):Reads w S γ (aN f (tmpsOf k)) a k:=by
 intro t ht;have h1:=hf t ht;rw[vM,if_pos ht];split
 ·rename_i c' v hg;rw[hg]at h1;cases h1 with
  |ifb _ _ _ h2 _=>exact h2 (oR h t ht c' v hg hc)
 exact h1
theorem kq {l m:List Prop} (h:aP (l++m)):aP l∧aP m:=by
 induction l with
 |nil=>exact⟨trivial,h⟩
 |cons x r ih=>exact⟨⟨h.1,(ih h.2).1⟩,(ih h.2).2⟩
theorem vN {k:K} {mode:Nat} {vc:VC} {v:AV} {μ':AM} (hk:calm k=true) (h:cT f μ mode k=some (vc,v,μ')):μ'=μ:=by
 cases k<;>simp only[calm]at hk<;>first|(cases hk;done)|skip
 case lit own e s l z ps =>
  have:own=false:=by simpa using hk
  subst this;simp only[cT,cond_false]at h;repeat' split at h
  all_goals first
   |(cases h;done)
   |(obtain⟨rfl,rfl,rfl⟩:=aS h;rfl)
 all_goals simp only[cT]at h
 all_goals repeat' split at h
 all_goals first
  |(cases h;done)
  |(obtain⟨rfl,rfl,rfl⟩:=aS h;rfl)
  |(
   obtain⟨_,h⟩:=bE h;repeat' split at h
   all_goals first
    |(cases h;done)
    |(obtain⟨rfl,rfl,rfl⟩:=aS h;rfl)
    |(obtain⟨_,h⟩:=bE h;obtain⟨rfl,rfl,rfl⟩:=aS h;rfl))
theorem tv {k:K} {mode:Nat} {vc:VC} {v:AV} {μ':AM} (hk:still k=true) (h:cT f μ mode k=some (vc,v,μ')) (μ2:AM):cT f μ2 mode k=some (vc,v,μ2):=by
 cases k<;>simp only[still]at hk<;>first|(cases hk;done)|skip
 case lit own e s l z ps =>
  have:own=false:=by simpa using hk
  subst this;simp only[cT,cond_false]at h ⊢;repeat' split at h
  all_goals first
   |(cases h;done)
   |(obtain⟨rfl,rfl,rfl⟩:=aS h;simp[*])
 all_goals simp only[cT]at h ⊢
 all_goals repeat' split at h
 all_goals first
  |(cases h;done)
  |(obtain⟨rfl,rfl,rfl⟩:=aS h;simp[*])
theorem kr {as:List AV} {r:PV} (h:((refsOf as).isEmpty||scalar r)=true):after μ false as r=μ:=by
 unfold after;cases hr:refsOf as with
 |nil=>rfl
 |cons b l =>
  rw[hr]at h;simp only[List.isEmpty_cons,Bool.false_or]at h;simp[h]
theorem fN {X:FuncId→List PV→PV→Prop} {Y:FuncId→List AV→AM→AV→AM→Prop} {h:Hint} {g:FuncId} {as:List AV} {vc:VC} {pr:List Prop} {v:AV} {μ':AM} (he:dW X Y μ h g as=some (vc,pr,v,μ'))
  (hm:h.mem=none) (hq:h.ro=true∨(h.frz=false∧((refsOf as).isEmpty||dD v)=true)):μ'=μ:=by
 unfold dW at he;split at he
 ·cases he
 rename_i v' _;rw[hm]at he;simp only at he;split at he
 ·injection he with he;injection he with e1 e2;injection e2 with e2 e3;injection e3 with e3 e4
  exact e4.symm
 rename_i hro;have hq:=hq.resolve_left (by rw[hro];simp);split at he
 ·rename_i r _;split at he
  ·injection he with he;injection he with e1 e2;injection e2 with e2 e3;injection e3 with e3 e4
   subst e3;rw[←e4,hq.1];exact kr hq.2
  split at he
  ·injection he with he;injection he with e1 e2;injection e2 with e2 e3;injection e3 with e3 e4
   subst e3;rw[←e4,hq.1];exact kr hq.2
  cases he
 cases he
theorem iS {X:FuncId→List PV→PV→Prop} {Y:FuncId→List AV→AM→AV→AM→Prop} {h:Hint} {k:K} {vc:VC} {pr:List Prop} {v:AV} {μ':AM} (hk:calm k=true) (he:bG X Y f μ h k=some (vc,pr,v,μ')) (hq:quiet true h f k v=true):μ'=μ:=by
 have other:(match cT f μ h.mode k with
   |some (vc,v,μ')=>match h.val with
    |some v'=>some (vc,[v=v'],v',μ')
    |none=>some (vc,[],v,μ')
   |none=>none)=some (vc,pr,v,μ')→μ'=μ:=by
  intro he;split at he
  ·rename_i vc' v' m hev;have:=vN hk hev;split at he
   ·injection he with he;injection he with e1 e2;injection e2 with e2 e3;injection e3 with e3 e4
    rw[←e4];exact this
   injection he with he;injection he with e1 e2;injection e2 with e2 e3;injection e3 with e3 e4
   rw[←e4];exact this
  cases he
 cases k with
 |call g as =>
  simp only[bG]at he;simp only[quiet,quiet.isCallK]at hq;split at hq
  ·cases hq
  rename_i hm;refine fN he hm ?_;cases hro:h.ro with
  |true=>exact .inl rfl
  |false =>
   rw[hro]at hq;simp only[Bool.false_or,Bool.and_eq_true,Bool.not_eq_true']at hq;exact .inr ⟨hq.1,hq.2⟩
 |callv x as =>
  simp only[bG]at he;simp only[quiet,quiet.isCallK]at hq;split at hq
  ·cases hq
  rename_i hm;have hq2:h.ro=true∨(h.frz=false∧cP f (.callv x as) v=true):=by
   cases hro:h.ro with
   |true=>exact .inl rfl
   |false =>
    rw[hro]at hq;simp only[Bool.false_or,Bool.and_eq_true,Bool.not_eq_true']at hq;exact .inr hq
  split at he
  ·rename_i g caps hg;refine fN he hm (hq2.imp id fun h=>⟨h.1,?_⟩);have:=h.2;simp only[cP,hg]at this;exact this
  ·rename_i g first hg
   refine fN he hm (hq2.imp id fun h=>⟨h.1,?_⟩);have:=h.2;simp only[cP,hg]at this;exact this
  ·rename_i g hg;refine fN he hm (hq2.imp id fun h=>⟨h.1,?_⟩);have:=h.2;simp only[cP,hg]at this;exact this
  cases he
 |callB g as=>cases hk
 |_=>exact other he
def xL:K→Bool
 | .pick _ _ _=>true
 |_=>false
theorem xM {P:Program} {op:BinOp} {t:TypeId} {x y:Operand} {k:K} (hk:ie P op t x y=some k) (h:xL k=true):False:=by
 unfold ie at hk;repeat' split at hk
 all_goals first
  |(cases hk;done)
  |(injection hk with hk;subst hk;cases h;done)
  |(
   obtain⟨_,hk⟩:=bE hk;repeat' split at hk
   all_goals first
    |(cases hk;done)
    |(injection hk with hk;subst hk;cases h;done))
theorem pz {P:Program} {c:Call} {k:K} (hk:dX P c=some k) (h:xL k=true):False:=by
 unfold dX at hk;split at hk
 ·obtain⟨_,_,h2⟩:=map_some hk;subst h2;cases h
 ·obtain⟨_,_,h2⟩:=map_some hk;subst h2;cases h
 ·cases hk
 ·cases hk
 unfold eT at hk;repeat' split at hk
 all_goals first
  |(cases hk;done)
  |(injection hk with hk;subst hk;cases h;done)
  |(obtain⟨_,hk⟩:=aQ hk;injection hk with hk;subst hk;cases h;done)
theorem uo {P:Program} {own:Bool} {op:Op} {k:K} (hk:jx P own op=some k) (h:xL k=true):∃c x y c' x' y',op= .pick c x y∧aB c=some c'∧aB x=some x'∧aB y=some y'∧k= .pick c' x' y':=by
 cases op<;>simp only[jx]at hk;case pick c x y =>
  split at hk
  ·rename_i h1 h2 h3;injection hk with hk
   exact⟨c,x,y,_,_,_,rfl,h1,h2,h3,hk.symm⟩
  cases hk
 case call c =>
  exfalso;split at hk
  ·rcases lN hk with hk|⟨g,as,-,-,rfl⟩
   ·exact pz hk h
   cases h
  exact pz hk h
 all_goals exfalso
 all_goals repeat' split at hk
 all_goals first
  |(cases hk;done)
  |(exact xM hk h)
  |contradiction
  |(injection hk with hk;subst hk;cases h;done)
  |(obtain⟨_,_,h2⟩:=map_some hk;subst h2;cases h;done)
  |(obtain⟨_,hk⟩:=aQ hk;injection hk with hk;subst hk;cases h;done)
  |(obtain⟨_,hk⟩:=aQ hk;obtain⟨_,_,h2⟩:=map_some hk;subst h2;cases h;done)
  |(obtain⟨_,hk2⟩:=aQ hk;cases hk2;done)
  |(rcases qQ hk with⟨_,h2⟩|⟨_,h2⟩<;>(subst h2;cases h))
theorem mR {c0:Bool} {ow:Bool} {x y z:cn} {pr:List Prop} {v:AV} {K':Act→World→Prop} {Q:Exit→Act→World→Prop} (hc0:c0=true) (hk:jx C.P ow o.op=some (.pick x y z)) (he:eJ c0 f x y z=some (pr,v)) (hpr:aP pr)
  (hf:Reads w S γ f a (.pick x y z)) (hK:∀u,VR w S γ v u→K' (a.put o.dst u) w):o.wp C.P a w K' Q:=by
 obtain⟨c',a',b',x',y',z',hop,h1,h2,h3,he'⟩:=uo hk rfl;injection he' with g1 g2 g3
 subst g1 g2 g3;have k1:=aO (w:=w) (S:=S) (γ:=γ) (f:=f) (a:=a) h1 fun t ht=>hf t (by simp[tmpsOf,ht])
 have k2:=aO (w:=w) (S:=S) (γ:=γ) (f:=f) (a:=a) h2 fun t ht=>hf t (by simp[tmpsOf,ht])
 have k3:=aO (w:=w) (S:=S) (γ:=γ) (f:=f) (a:=a) h3 fun t ht=>hf t (by simp[tmpsOf,ht])
 have run:∀{b:Bool} {r:Bool},a.eval c'= .bool b→(b=true→a.eval a'= .bool r)→(b=false→a.eval b'= .bool r)→v= .pv (.bool r)→o.wp C.P a w K' Q:=by
  intro b r g1 g2 g3 g4;subst g4;have hr:(execOp a.eval o).run C.P w= .ok (.value (.bool r)) w:=by
   cases b with
   |true=>simp[execOp,hop,g1,asBool,g2 rfl]
   |false=>simp[execOp,hop,g1,asBool,g3 rfl]
  unfold Oper.wp;rw[hr];exact hK _ (.pv _ _ (.bool _))
 have ifb:∀{c1:Bool} {p:Bool} {u:Value},VR w S γ (.ifb c1 (.pv (.bool p))) u→c1=true→u= .bool p:=by
  intro c1 p u h hc;cases h with
  |ifb _ _ _ h1 _=>exact cd (h1 hc)
 unfold eJ at he;have tail:∀{xb:Bool},a.eval c'= .bool xb→∀{l:List Prop},aP l →
   (
    (∃c1 p c2 q,ev f y= .ifb c1 (.pv (.bool p))∧ev f z= .ifb c2 (.pv (.bool q))∧l=[c0=true→xb=true→c1=true,c0=true→xb=false→c2=true]∧v= .pv (.bool (bif xb then p else q))) ∨
    (∃c1 p q,ev f y= .ifb c1 (.pv (.bool p))∧ev f z= .pv (.bool q)∧l=[c0=true→xb=true→c1=true]∧v= .pv (.bool (bif xb then p else q))) ∨
    (∃p c2 q,ev f y= .pv (.bool p)∧ev f z= .ifb c2 (.pv (.bool q))∧l=[c0=true→xb=false→c2=true]∧v= .pv (.bool (bif xb then p else q))) ∨
    (∃p q,ev f y= .pv (.bool p)∧ev f z= .pv (.bool q)∧v= .pv (.bool (bif xb then p else q))))→o.wp C.P a w K' Q:=by
  intro xb hx l hl h;rcases h with⟨c1,p,c2,q,e1,e2,rfl,hv⟩|⟨c1,p,q,e1,e2,rfl,hv⟩|⟨p,c2,q,e1,e2,rfl,hv⟩|⟨p,q,e1,e2,hv⟩
  ·rw[e1]at k2;rw[e2]at k3;exact run hx (fun h=>by subst h;exact ifb k2 (hl.1 hc0 rfl)) (fun h=>by subst h;exact ifb k3 (hl.2.1 hc0 rfl)) hv
  ·rw[e1]at k2;rw[e2]at k3;exact run hx (fun h=>by subst h;exact ifb k2 (hl.1 hc0 rfl)) (fun h=>by subst h;exact cd k3) hv
  ·rw[e1]at k2;rw[e2]at k3;exact run hx (fun h=>by subst h;exact cd k2) (fun h=>by subst h;exact ifb k3 (hl.1 hc0 rfl)) hv
  rw[e1]at k2;rw[e2]at k3;exact run hx (fun h=>by subst h;exact cd k2) (fun h=>by subst h;exact cd k3) hv
 split at he
 ·rename_i xb hx;rw[hx]at k1;have k1:=cd k1;split at he;all_goals first
   |(cases he;done)
   |(injection he with he;injection he with e1 e2;subst e1)
  ·exact tail k1 hpr (.inl ⟨_,_,_,_,by assumption,by assumption,rfl,e2.symm⟩)
  ·exact tail k1 hpr (.inr (.inl ⟨_,_,_,by assumption,by assumption,rfl,e2.symm⟩))
  ·exact tail k1 hpr (.inr (.inr (.inl ⟨_,_,_,by assumption,by assumption,rfl,e2.symm⟩)))
  exact tail k1 hpr (.inr (.inr (.inr ⟨_,_,by assumption,by assumption,e2.symm⟩)))
 ·rename_i c3 xb hx;rw[hx]at k1;split at he;all_goals first
   |(cases he;done)
   |(injection he with he;injection he with e1 e2;subst e1)
  all_goals have k1:=ifb k1 (hpr.1 hc0)
  ·exact tail k1 hpr.2 (.inl ⟨_,_,_,_,by assumption,by assumption,rfl,e2.symm⟩)
  ·exact tail k1 hpr.2 (.inr (.inl ⟨_,_,_,by assumption,by assumption,rfl,e2.symm⟩))
  ·exact tail k1 hpr.2 (.inr (.inr (.inl ⟨_,_,_,by assumption,by assumption,rfl,e2.symm⟩)))
  exact tail k1 hpr.2 (.inr (.inr (.inr ⟨_,_,by assumption,by assumption,e2.symm⟩)))
 cases he
end
end
section
section
variable {C:Ctx} {w0 w:World} {S:Nat→Prop} {γ:Gh} {μ:AM} {f:AF} {a:Act} {o:Oper} {ops:Array Oper}
theorem cD {α β γ δ:Type} {a a':α} {b b':β} {c c':γ} {d d':δ} (h:some (a,b,c,d)=some (a',b',c',d')):a=a'∧b=b'∧c=c'∧d=d':=by
 injection h with h;injection h with h1 h2;injection h2 with h2 h3;injection h3 with h3 h4;exact⟨h1,h2,h3,h4⟩
theorem gr {K':Act→World→Prop} {Q:Exit→Act→World→Prop} (hg:o.guard=none) (h:o.wp C.P a w K' Q):ly C.P ops o a w K' Q:=by
 unfold ly Region.wanted;rw[hg];exact h
theorem dP {j:Nat} {want:Bool} {K':Act→World→Prop} {Q:Exit→Act→World→Prop} (hg:o.guard=some (j,want)) (h1:yielded ops a.tmps j=some want→o.wp C.P a w K' Q) (h2:yielded ops a.tmps j≠some want→K' (a.put o.dst undef) w) :
  ly C.P ops o a w K' Q:=by
 unfold ly Region.wanted;rw[hg];simp only[beq_iff_eq];split
 ·rename_i h;exact h1 h
 rename_i h;exact h2 h
theorem bL {own:Nat→Bool} {n:Nat} {ao:bx} {cm dr:Bool} {h:Hint} {vc:VC} {pr:List Prop} {v:AV} {μ':AM} {K':Act→World→Prop} {Q:Exit→Act→World→Prop} (hW:Wd C w0 S γ μ w) (hc:eu C.P own n ops o=some ao)
  (he:cI (ah C) (aA C) cm dr f μ ao h=some (vc,pr,v,μ')) (hvc:aI vc) (hpr:aP pr) (hf:∀t∈eY ao,VR w S γ (get f t) (a.eval (.tmp t)))
  (hK:∀u w' S' γ',Ext w S γ w' S' γ'→Wd C w0 S' γ' μ' w'→VR w' S' γ' v u→K' (a.put o.dst u) w'):ly C.P ops o a w K' Q:=by
 obtain⟨ow,hk,hdst,-,hg⟩:=cJ hc;have hfk:Reads w S γ f a ao.k:=fun t ht=>hf t (by
  unfold eY;split
  ·exact ht
  exact List.mem_cons_of_mem _ ht)
 have hfg:∀t want,ao.guard=some (t,want)→VR w S γ (get f t) (a.eval (.tmp t)):=fun t want hg=>hf t (by unfold eY;rw[hg];exact List.mem_cons_self)
 unfold cI at he;cases cm with
 |false =>
  rcases hg with⟨hg1,hg2⟩|⟨j,want,t,hg1,hj,hg2⟩
  ·simp only[hg2]at he;split at he
   ·rename_i vc' pr' v' m hr;obtain⟨-,he⟩:=aQ he;obtain⟨rfl,rfl,rfl,rfl⟩:=cD he;exact gr hg1 (jC hW hk hr hvc hpr hfk hK)
   cases he
  simp only[hg2]at he;have hgt:=hfg t want hg2;split at he
  ·rename_i b hb;rw[hb]at hgt;have hgt:=cd hgt;have hy:=ey hj hgt;split at he
   ·rename_i hbw;have hwb:want=b:=by cases want<;>cases b<;>simp at hbw ⊢
    split at he
    ·rename_i vc' pr' v' m hr;obtain⟨-,he⟩:=aQ he;obtain⟨rfl,rfl,rfl,rfl⟩:=cD he;exact dP hg1 (fun _=>jC hW hk hr hvc hpr hfk hK) (fun h=>absurd (by rw[hy,hwb]) h)
    cases he
   rename_i hbw;have hwb:want≠b:=by cases want<;>cases b<;>simp at hbw ⊢
   obtain⟨rfl,rfl,rfl,rfl⟩:=cD he;refine dP hg1 (fun h=>?_) fun _=>hK _ w S γ (Ext.refl _ _ _) hW (.any _)
   rw[hy]at h;injection h with h
   exact absurd h.symm hwb
  cases he
 |true =>
  rcases hg with⟨hg1,hg2⟩|⟨j,want,t,hg1,hj,hg2⟩
  ·simp only[hg2]at he;split at he
   ·rename_i c x y hkk;rw[hkk]at hk hfk;split at he
    ·rename_i pr' v' hp;split at he
     ·obtain⟨rfl,rfl,rfl,rfl⟩:=cD he;have hv:=hpr.1;subst hv;exact gr hg1 (mR rfl hk hp hpr.2 hfk fun u hu=>hK u w S γ (Ext.refl _ _ _) hW hu)
     obtain⟨rfl,rfl,rfl,rfl⟩:=cD he;exact gr hg1 (mR rfl hk hp hpr hfk fun u hu=>hK u w S γ (Ext.refl _ _ _) hW hu)
    cases he
   split at he
   ·rename_i vc' pr' v' m hr;obtain⟨-,he⟩:=aQ he;obtain⟨rfl,rfl,rfl,rfl⟩:=cD he;obtain⟨p1,p2⟩:=kq hpr;exact gr hg1 (jC hW hk hr hvc p2 (lO rfl p1 hfk) hK)
   cases he
  simp only[hg2]at he;have hgt:=hfg t want hg2;split at he
  ·cases he
  rename_i c hcc;have hcase:(c=true∧yielded ops a.tmps j=some want)∨(c=false∧yielded ops a.tmps j≠some want):=by
   simp only[iN]at hcc;split at hcc
   ·rename_i b hb;rw[hb]at hgt;have hy:=ey hj (cd hgt);injection hcc with hcc
    rw[hy];cases want<;>cases b<;>simp at hcc<;>subst hcc<;>simp
   ·rename_i c0 b hb;rw[hb]at hgt;injection hcc with hcc
    cases hgt with
    |ifb _ _ _ h1 h2 =>
     cases c0 with
     |true =>
      have hy:=ey hj (cd (h1 rfl));rw[hy];cases want<;>cases b<;>simp at hcc<;>subst hcc<;>simp
     |false =>
      have hy:=sX hj (h2 rfl);rw[hy];simp at hcc;exact .inr ⟨hcc,by simp⟩
   cases hcc
  have skip:∀{v':AV},(c=false)→v= .ifb c v'→μ'=μ→K' (a.put o.dst undef) w:=fun hc0 hv hm=>by
   subst hm;subst hv;refine hK _ w S γ (Ext.refl _ _ _) hW (.ifb _ _ _ (fun h=>?_) fun _=>rfl);rw[hc0]at h;cases h
  split at he
  ·rename_i x y z hkk;rw[hkk]at hk hfk;split at he
   ·rename_i pr' v' hp;obtain⟨rfl,rfl,rfl,rfl⟩:=cD he;rcases hcase with⟨hct,hy⟩|⟨hcf,hy⟩
    ·refine dP hg1 (fun _=>mR hct hk hp hpr hfk fun u hu=>hK u w S γ (Ext.refl _ _ _) hW (.ifb _ _ _ (fun _=>hu) fun h=>?_)) fun h=>absurd hy h
     rw[hct]at h;cases h
    exact dP hg1 (fun h=>absurd h hy) fun _=>skip hcf rfl rfl
   cases he
  split at he
  ·rename_i hcalm;split at he
   ·rename_i vc' pr' v' m hr;obtain⟨hq,he⟩:=aQ he;obtain⟨rfl,rfl,rfl,rfl⟩:=cD he;rcases hcase with⟨hct,hy⟩|⟨hcf,hy⟩
    ·obtain⟨q1,q2,q3⟩:=hpr.1 hct;have hm:=iS hcalm hr hq;subst hm;refine dP hg1 (fun _=>jC hW hk hr q1 q3 (lO rfl q2 hfk) fun u w' S' γ' hE hW' hv=>hK u w' S' γ' hE hW' (.ifb _ _ _ (fun _=>hv) fun h=>?_)) fun h=>absurd hy h
     rw[hct]at h;cases h
    exact dP hg1 (fun h=>absurd h hy) fun _=>skip hcf rfl rfl
   cases he
  cases he
end
end
section
section
variable {C:Ctx} {w0 w:World} {S:Nat→Prop} {γ:Gh} {μ:AM} {f:AF} {a:Act} {o:Oper} {ops:Array Oper}
theorem da {X:FuncId→List PV→PV→Prop} {Y:FuncId→List AV→AM→AV→AM→Prop} {cm dr:Bool} {hs:List (Nat×Hint)}:∀(al:List bx) (i:Nat) (vc0:VC) (pr0:List Prop) (f:AF) (μ:AM) (vc:VC) (pr:List Prop) (f':AF) (μ':AM),
  cV X Y cm dr al hs i vc0 pr0 f μ=some (vc,pr,f',μ')→aI vc→aP pr →
  (aI vc0∧aP pr0)∧∃(F:Nat→AF) (M:Nat→AM) (V:Nat→AV),F i=f∧M i=μ∧F (i+al.length)=f'∧M (i+al.length)=μ' ∧
   ∀(j:Nat) ao,al[j]?=some ao→∃vcj prj,cI X Y cm dr (F (i+j)) (M (i+j)) ao (bF hs (i+j))=some (vcj,prj,V (i+j),M (i+j+1))∧aI vcj∧aP prj∧F (i+j+1)=put (F (i+j)) ao.dst (V (i+j))
 |[],i,vc0,pr0,f,μ,vc,pr,f',μ',h,hvc,hpr=>by
  simp only[cV]at h;obtain⟨rfl,rfl,rfl,rfl⟩:=cD h;exact⟨⟨hvc,hpr⟩,fun _=>f,fun _=>μ,fun _=>.any,rfl,rfl,rfl,rfl,fun j ao h=>by simp at h⟩
 |o::r,i,vc0,pr0,f,μ,vc,pr,f',μ',h,hvc,hpr=>by
  simp only[cV]at h;cases he:ff X Y cm dr f μ o (bF hs i) with
  |none=>rw[he]at h;cases h
  |some q =>
   obtain⟨vc1,pr1,f1,μ1⟩:=q;rw[he]at h;simp only at h;obtain⟨⟨h1,h2⟩,F,M,V,g1,g2,g3,g4,g5⟩:=da r (i+1) _ _ f1 μ1 vc pr f' μ' h hvc hpr;obtain⟨h11,h12⟩:=ew h1;obtain⟨h21,h22⟩:=kq h2;unfold ff at he;cases hv:cI X Y cm dr f μ o (bF hs i) with
   |none=>rw[hv]at he;cases he
   |some q =>
    obtain⟨vc2,pr2,v,μ2⟩:=q;rw[hv]at he;simp only at he;obtain⟨rfl,rfl,rfl,rfl⟩:=cD he;refine⟨⟨h12,h22⟩,fun j=>if j=i then f else F j,fun j=>if j=i then μ else M j,fun j=>if j=i then v else V j,by simp,by simp,?_,?_,fun j ao hj=>?_⟩
    ·show(if i+(r.length+1)=i then f else F (i+(r.length+1)))=f';rw[if_neg (by omega),show i+(r.length+1)=i+1+r.length by omega];exact g3
    ·show(if i+(r.length+1)=i then μ else M (i+(r.length+1)))=μ';rw[if_neg (by omega),show i+(r.length+1)=i+1+r.length by omega];exact g4
    cases j with
    |zero =>
     simp only[List.getElem?_cons_zero,Option.some.injEq]at hj;subst hj;simp only[Nat.add_zero,if_true];rw[if_neg (by omega),if_neg (by omega),g1,g2];exact⟨_,_,hv,h11,h21,rfl⟩
    |succ j =>
     obtain⟨vcj,prj,k1,k2,k3,k4⟩:=g5 j ao (by simpa using hj);rw[show i+1+j=i+(j+1) by omega]at k1 k4;refine⟨vcj,prj,?_,k2,k3,?_⟩
     ·simp only[if_neg (show ¬i+(j+1)=i by omega),if_neg (show ¬i+(j+1)+1=i by omega)];exact k1
     simp only[if_neg (show ¬i+(j+1)=i by omega),if_neg (show ¬i+(j+1)+1=i by omega)];exact k4
theorem dQ {P:Program} {own:Nat→Bool} {n:Nat}:∀{l:List Oper} {al:List bx},dM P own n ops l=some al→al.length=l.length∧∀(j:Nat) o,l[j]?=some o→∃ao,al[j]?=some ao∧eu P own n ops o=some ao
 |[],al,h=>by
  simp only[dM,Option.some.injEq]at h;subst h;exact⟨rfl,fun j o h=>by simp at h⟩
 |x::r,al,h=>by
  simp only[dM]at h;split at h
  ·rename_i ao l h1 h2;injection h with h
   subst h;obtain⟨g1,g2⟩:=dQ h2;refine⟨by simp[g1],fun j o hj=>?_⟩;cases j with
   |zero =>
    simp only[List.getElem?_cons_zero,Option.some.injEq]at hj;subst hj;exact⟨ao,rfl,h1⟩
   |succ j=>simpa using g2 j o (by simpa using hj)
  cases h
def Ends (C:Ctx) (n m:Nat) (w0 w:World) (S:Nat→Prop) (γ:Gh) (R:Exit→AF→AM→Prop):Exit→Act→World→Prop :=
 fun x a' w'=>∃S' γ' f' μ',fH m w S γ w' S' γ'∧Wd C w0 S' γ' μ' w'∧FR C.D n w' S' γ' f' a'∧R x f' μ'
theorem dd {i:Nat} {K':Act→World→Prop} {Q:Exit→Act→World→Prop} (ho:ops[i]?=some o) (h:ly C.P ops o a w K' Q):wpOp C.P ops Q i K' a w:=by
 unfold wpOp;rw[ho];simp only;unfold ly at h;split
 ·rename_i hw;rw[if_pos hw]at h;exact .inl h
 rename_i hw;rw[if_neg hw]at h;exact h
theorem Ak {own:Nat→Bool} {n m:Nat} {al:List bx} {cm:Bool} {hs:List (Nat×Hint)} {vc:VC} {pr:List Prop} {f':AF} {μ':AM} {R:Exit→AF→AM→Prop} (hc:dM C.P own n ops ops.toList=some al)
  (he:cV (ah C) (aA C) cm false al hs 0 [] [] f μ=some (vc,pr,f',μ')) (hvc:aI vc) (hpr:aP pr) (hR:R .normal f' μ') (hW:Wd C w0 S γ μ w) (hF:FR C.D n w S γ f a) :
  wpOps C.P ops (Ends C n m w0 w S γ R) (List.range ops.size) a w:=by
 obtain⟨-,F,M,V,h1,h2,h3,h4,h5⟩:=da al 0 [] [] f μ vc pr f' μ' he hvc hpr;obtain⟨hl,hat⟩:=dQ hc;replace hl:al.length=ops.size:=hl.trans (Array.length_toList);rw[Nat.zero_add]at h3 h4;have key:∀(l k:Nat),k+l=ops.size→∀(S1:Nat→Prop) (γ1:Gh) (w1:World) (a1:Act),Ext w S γ w1 S1 γ1→Wd C w0 S1 γ1 (M k) w1→FR C.D n w1 S1 γ1 (F k) a1→wpOps C.P ops (Ends C n m w0 w S γ R) (List.range' k l) a1 w1:=by
  intro l;induction l with
  |zero =>
   intro k hk S1 γ1 w1 a1 hE hW1 hF1;simp only[List.range'_zero,wpOps];have:k=al.length:=by rw[hl];omega
   subst this;rw[h4]at hW1;rw[h3]at hF1;exact⟨S1,γ1,f',μ',hE.ue m,hW1,hF1,hR⟩
  |succ l ih =>
   intro k hk S1 γ1 w1 a1 hE hW1 hF1;rw[List.range'_succ,wpOps_cons];have hkl:k<ops.size:=by omega
   have ho:ops[k]?=some ops[k]:=by simp[hkl]
   obtain⟨ao,hao,hco⟩:=hat k ops[k] (by rw[Array.getElem?_toList];exact ho);obtain⟨vcj,prj,k1,k2,k3,k4⟩:=h5 k ao hao;rw[Nat.zero_add]at k1 k4;obtain⟨-,-,hdst,hlt,-⟩:=cJ hco;refine dd ho (bL hW1 hco k1 k2 k3 (fun t _=>hF1.val t) fun u w2 S2 γ2 hE2 hW2 hv=>?_);refine ih (k+1) (by omega) S2 γ2 w2 _ (hE.trans hE2) hW2 ?_;rw[k4,hdst];exact(hF1.ext hE2).put hv hlt
 rw[List.range_eq_range'];exact key ops.size 0 (by omega) S γ w a (Ext.refl _ _ _) (by rw[h2];exact hW) (by rw[h1];exact hF)
end
end
section
def eZ (k:K):Bool:=!calm k
def hit (d:Option Nat) (l:List Nat):Bool:=match d with
 |some d=>l.contains d
 |none=>false
def pW (a b:Option Nat):Bool:=match a,b with
 |some x,some y=>Nat.beq x y
 |_,_=>false
def dep (x y:bx):Bool :=
 hit x.dst (eY y)||hit y.dst (eY x)||pW x.dst y.dst||(eZ x.k&& !still y.k)||(!still x.k&&eZ y.k)
def FT (acc:List Nat):List Edge→Nat
 |[]=>0
 |e::r=>(bif Region.binds .any e then 2 ^ e.on ||| acc.getD e.on 0 else 0) ||| FT acc r
def dR:List Oper→List Nat→List Nat
 |[],acc=>acc
 |o::r,acc=>dR r (acc++[FT acc o.after.toList])
def gE:List Oper→Nat→Bool
 |[],_=>true
 |o::r,i=>(o.after.toList.all fun e=>!Region.binds .any e||Nat.blt e.on i)&&gE r (i+1)
def nR (ops:List Oper) (al:List bx):Bool :=
 let B:=dR ops []
 gE ops 0&&(List.range al.length).all fun q=>(List.range q).all fun p=>!dep (al.getD p default) (al.getD q default)||(B.getD q 0).testBit p
theorem vO:∀(l:List Oper) (acc:List Nat),(dR l acc).length=acc.length+l.length
 |[],acc=>rfl
 |o::r,acc=>by rw[dR,vO r];simp;omega
theorem qS:∀(l:List Oper) (acc:List Nat) (j:Nat),j<acc.length→(dR l acc)[j]?=acc[j]?
 |[],acc,j,_=>rfl
 |o::r,acc,j,h=>by rw[dR,qS r _ j (by simp;omega),List.getElem?_append_left h]
theorem yX {acc:List Nat} {i:Nat}:∀{es:List Edge},(FT acc es).testBit i=true→∃e∈es,Region.binds .any e=true∧(e.on=i∨(acc.getD e.on 0).testBit i=true)
 |[],h=>by simp[FT]at h
 |e::r,h=>by
  simp only[FT,Nat.testBit_or,Bool.or_eq_true]at h;rcases h with h|h
  ·cases hb:Region.binds .any e with
   |false=>rw[hb]at h;simp at h
   |true =>
    rw[hb]at h;simp only[cond_true,Nat.testBit_or,Bool.or_eq_true,Nat.testBit_two_pow,decide_eq_true_eq]at h;exact⟨e,by simp,hb,h⟩
  obtain⟨e',h1,h2,h3⟩:=yX h;exact⟨e',by simp[h1],h2,h3⟩
theorem EB (l:List Oper):∀(acc:List Nat) (j:Nat) (o:Oper),l[j]?=some o→∃acc',(dR l acc).getD (acc.length+j) 0=FT acc' o.after.toList∧∀k,(acc'.getD k 0)=(if k<acc.length+j then (dR l acc).getD k 0 else 0):=by
 induction l with
 |nil=>intro acc j o h;simp at h
 |cons x r ih =>
  intro acc j o h;cases j with
  |zero =>
   simp only[List.getElem?_cons_zero,Option.some.injEq]at h;subst h;refine⟨acc,?_,fun k=>?_⟩
   ·rw[dR,List.getD,qS r _ _ (by simp)];simp
   by_cases hk:k<acc.length
   ·rw[if_pos (by omega),dR,List.getD,List.getD,qS r _ k (by simp;omega),List.getElem?_append_left hk]
   rw[if_neg (by omega),List.getD,List.getElem?_eq_none (by omega)];rfl
  |succ j =>
   obtain⟨acc',h1,h2⟩:=ih (acc++[FT acc x.after.toList]) j o (by simpa using h);have e:(acc++[FT acc x.after.toList]).length+j=acc.length+(j+1):=by simp;omega
   rw[e]at h1 h2;exact⟨acc',h1,h2⟩
theorem ahead {ops:List Oper} {E:Nat→Prop} (hcl:∀(j:Nat) o,ops[j]?=some o→E j→∀e∈o.after.toList,Region.binds .any e=true→E e.on) :
  ∀(j:Nat) o,ops[j]?=some o→(∀e∈o.after.toList,Region.binds .any e=true→E e.on)→∀i,((dR ops []).getD j 0).testBit i=true→E i:=by
 intro j;induction j using Nat.strongRecOn with
 |_ j ih =>
  intro o ho hr i hi;obtain⟨acc,h1,h2⟩:=EB ops [] j o ho;simp only[List.length_nil,Nat.zero_add]at h1 h2;rw[h1]at hi;obtain⟨e,he,hb,hc⟩:=yX hi;rcases hc with hc|hc
  ·rw[←hc];exact hr e he hb
  rw[h2]at hc;split at hc
  ·rename_i hlt;have hEe:=hr e he hb;cases hoe:ops[e.on]? with
   |none =>
    rw[List.getD,List.getElem?_eq_none (by rw[vO];have:=List.getElem?_eq_none_iff.mp hoe;simpa using this)]at hc;simp at hc
   |some oe=>exact ih e.on hlt oe hoe (hcl e.on oe hoe hEe) i hc
  simp at hc
theorem gu (l:List Oper):∀{i j:Nat} {o:Oper},gE l i=true→l[j]?=some o→∀e∈o.after.toList,Region.binds .any e=true→e.on<i+j:=by
 induction l with
 |nil=>intro i j o _ h;simp at h
 |cons x r ih =>
  intro i j o h ho e he hb;simp only[gE,Bool.and_eq_true]at h;cases j with
  |zero =>
   simp only[List.getElem?_cons_zero,Option.some.injEq]at ho;subst ho;have h1:=List.all_eq_true.mp h.1 e he;rw[hb]at h1;simp only[Bool.not_true,Bool.false_or]at h1;have h2:=Nat.blt_eq.mp h1;omega
  |succ j =>
   have h1:=ih h.2 (show r[j]?=some o by simpa using ho) e he hb;omega
end
section
section
variable {C:Ctx} {w0 w:World} {S:Nat→Prop} {γ:Gh} {μ:AM} {f:AF} {a:Act} {o:Oper} {ops:Array Oper}
def GF (f0:AF) (al:List bx) (V:Nat→AV) (E:Nat→Bool):Nat→AF
 |0=>f0
 |k+1=>bif E k then put (GF f0 al V E k) (al.getD k default).dst (V k) else GF f0 al V E k
def GM (μ0:AM) (al:List bx) (M:Nat→AM) (E:Nat→Bool):Nat→AM
 |0=>μ0
 |k+1=>bif E k&&eZ (al.getD k default).k then M (k+1) else GM μ0 al M E k
theorem bh {f:AF} {d:Option Nat} {v:AV} {t:Nat} (h:d≠some t):get (put f d v) t=get f t:=by
 cases d with
 |none=>rfl
 |some d =>
  have:Nat.beq d t=false:=by
   rw[Bool.eq_false_iff];exact fun hb=>h (by rw[Nat.eq_of_beq_eq_true hb])
  simp[put,get,this]
theorem bC {f:AF} {v:AV} {t:Nat}:get (put f (some t) v) t=v:=by simp[put,get]
theorem oS {d:Option Nat} {t:Nat} {l:List Nat} (h:d=some t) (ht:t∈l):hit d l=true:=by
 subst h;simpa [hit]using ht
theorem mS {x y:Option Nat} {t:Nat} (h:x=some t) (h':y=some t):pW x y=true:=by
 subst h h';simp[pW]
theorem jD {X:FuncId→List PV→PV→Prop} {Y:FuncId→List AV→AM→AV→AM→Prop} {cm dr:Bool} {ao:bx} {h:Hint} {vc:VC} {pr:List Prop} {v:AV} {μ':AM} (hs:still ao.k=true) (he:cI X Y cm dr f μ ao h=some (vc,pr,v,μ')) (μ2:AM) :
  cI X Y cm dr f μ2 ao h=some (vc,pr,v,μ2):=by
 have run:∀{f:AF} {k:K} {vc pr v μ'},still k=true→bG X Y f μ h k=some (vc,pr,v,μ')→bG X Y f μ2 h k=some (vc,pr,v,μ2):=by
  intro f k vc pr v μ' hk he;have other:(match cT f μ h.mode k with
    |some (vc,v,μ')=>match h.val with
     |some v'=>some (vc,[v=v'],v',μ')
     |none=>some (vc,[],v,μ')
    |none=>none)=some (vc,pr,v,μ')→(match cT f μ2 h.mode k with
    |some (vc,v,μ')=>match h.val with
     |some v'=>some (vc,[v=v'],v',μ')
     |none=>some (vc,[],v,μ')
    |none=>none)=some (vc,pr,v,μ2):=by
   intro he;split at he
   ·rename_i vc' v' m hev;rw[tv hk hev μ2];simp only;split at he
    ·obtain⟨rfl,rfl,rfl,rfl⟩:=cD he;rfl
    obtain⟨rfl,rfl,rfl,rfl⟩:=cD he;rfl
   cases he
  cases k with
  |call g as=>simp[still]at hk
  |callv x as=>simp[still]at hk
  |callB g as=>simp[still]at hk
  |_=>exact other he
 unfold cI at he ⊢;cases cm with
 |false =>
  cases hg:ao.guard with
  |none =>
   simp only[hg]at he ⊢;split at he
   ·rename_i hr;rw[run hs hr];obtain⟨hq,he⟩:=aQ he;obtain⟨rfl,rfl,rfl,rfl⟩:=cD he;simp[hq]
   cases he
  |some g =>
   obtain⟨t,want⟩:=g;simp only[hg]at he ⊢;split at he
   ·rename_i hb;try simp only[hb]
    split at he
    ·rename_i hw;try simp only[hw]
     split at he
     ·rename_i hr;rw[run hs hr];obtain⟨hq,he⟩:=aQ he;obtain⟨rfl,rfl,rfl,rfl⟩:=cD he;simp[hq]
     cases he
    rename_i hw;try simp only[hw]
    obtain⟨rfl,rfl,rfl,rfl⟩:=cD he;rfl
   cases he
 |true =>
  have pk:∀{c0:Bool} {c x y:cn} {vc pr v μ'},(match eJ c0 f c x y with
    |some (pr,v)=>match h.val with
     |some v'=>some (([]:VC),(v=v')::pr,v',μ)
     |none=>some ([],pr,v,μ)
    |none=>none)=some (vc,pr,v,μ')→(match eJ c0 f c x y with
    |some (pr,v)=>match h.val with
     |some v'=>some (([]:VC),(v=v')::pr,v',μ2)
     |none=>some ([],pr,v,μ2)
    |none=>none)=some (vc,pr,v,μ2):=by
   intro c0 c x y vc pr v μ' he;cases hp:eJ c0 f c x y with
   |none=>rw[hp]at he;cases he
   |some q =>
    rw[hp]at he;cases hv:h.val with
    |none=>simp only[hv]at he;obtain⟨rfl,rfl,rfl,rfl⟩:=cD he;rfl
    |some v'=>simp only[hv]at he;obtain⟨rfl,rfl,rfl,rfl⟩:=cD he;rfl
  have pg:∀{c0:Bool} {c x y:cn} {vc pr v μ'},(match eJ c0 f c x y with
    |some (pr,v)=>some (([]:VC),pr,AV.ifb c0 v,μ)
    |none=>none)=some (vc,pr,v,μ')→(match eJ c0 f c x y with
    |some (pr,v)=>some (([]:VC),pr,AV.ifb c0 v,μ2)
    |none=>none)=some (vc,pr,v,μ2):=by
   intro c0 c x y vc pr v μ' he;cases hp:eJ c0 f c x y with
   |none=>rw[hp]at he;cases he
   |some q=>rw[hp]at he;obtain⟨rfl,rfl,rfl,rfl⟩:=cD he;rfl
  have ng:∀{g:AF} {k:K} {vc pr v μ'},still k=true→(match bG X Y g μ h k with
    |some (vc,pr,v,μ')=>bif quiet dr h g k v then some (vc,conds true f (tmpsOf k)++pr,v,μ') else none
    |none=>none)=some (vc,pr,v,μ')→(match bG X Y g μ2 h k with
    |some (vc,pr,v,μ')=>bif quiet dr h g k v then some (vc,conds true f (tmpsOf k)++pr,v,μ') else none
    |none=>none)=some (vc,pr,v,μ2):=by
   intro g k vc pr v μ' hk he;cases hr:bG X Y g μ h k with
   |none=>rw[hr]at he;cases he
   |some q =>
    obtain⟨a1,a2,a3,a4⟩:=q;rw[hr]at he;rw[run hk hr];obtain⟨hq,he⟩:=aQ he;obtain⟨rfl,rfl,rfl,rfl⟩:=cD he;simp[hq]
  have ngg:∀{g:AF} {k:K} {c:Bool} {vc pr v μ'},still k=true→(match calm k with
    |true=>match bG X Y g μ h k with
     |some (vc,pr,v,_)=>bif quiet true h g k v then some (([]:VC),[c=true→aI vc∧aP (conds true f (tmpsOf k))∧aP pr],AV.ifb c v,μ) else none
     |none=>none
    |false=>none)=some (vc,pr,v,μ')→(match calm k with
    |true=>match bG X Y g μ2 h k with
     |some (vc,pr,v,_)=>bif quiet true h g k v then some (([]:VC),[c=true→aI vc∧aP (conds true f (tmpsOf k))∧aP pr],AV.ifb c v,μ2) else none
     |none=>none
    |false=>none)=some (vc,pr,v,μ2):=by
   intro g k c vc pr v μ' hk he;cases hc:calm k with
   |false=>rw[hc]at he;cases he
   |true =>
    rw[hc]at he;simp only at he ⊢;cases hr:bG X Y g μ h k with
    |none=>rw[hr]at he;cases he
    |some q =>
     obtain⟨a1,a2,a3,a4⟩:=q;rw[hr]at he;rw[run hk hr];obtain⟨hq,he⟩:=aQ he;obtain⟨rfl,rfl,rfl,rfl⟩:=cD he;simp[hq]
  cases hg:ao.guard with
  |none =>
   simp only[hg]at he ⊢;revert hs he;generalize ao.k=k;intro hs he;cases k;case pick c x y=>exact pk he
   all_goals first
    |(simp[still]at hs;done)
    |exact ng (g:=aN f (tmpsOf _)) hs he
    |(simp[bG,cT]at he;done)
  |some g =>
   simp only[hg]at he ⊢;cases hgc:iN f (some g) with
   |none=>rw[hgc]at he;cases he
   |some c =>
    rw[hgc]at he;simp only at he ⊢;revert hs he;generalize ao.k=k;intro hs he;cases k;case pick c x y=>exact pg he
    all_goals first
     |(simp[still]at hs;done)
     |exact ngg (g:=aN f (tmpsOf _)) (c:=c) hs he
     |(simp[bG,cT,calm]at he;done)
theorem eW {X:FuncId→List PV→PV→Prop} {Y:FuncId→List AV→AM→AV→AM→Prop} {cm:Bool} {ao:bx} {h:Hint} {vc:VC} {pr:List Prop} {v:AV} {μ':AM} (hs:calm ao.k=true) (he:cI X Y cm true f μ ao h=some (vc,pr,v,μ')):μ'=μ:=by
 unfold cI at he;cases cm with
 |false =>
  simp only at he;split at he
  ·split at he
   ·rename_i hr;obtain⟨hq,he⟩:=aQ he;obtain⟨rfl,rfl,rfl,rfl⟩:=cD he;exact iS hs hr hq
   cases he
  split at he
  ·split at he
   ·split at he
    ·rename_i hr;obtain⟨hq,he⟩:=aQ he;obtain⟨rfl,rfl,rfl,rfl⟩:=cD he;exact iS hs hr hq
    cases he
   obtain⟨rfl,rfl,rfl,rfl⟩:=cD he;rfl
  cases he
 |true =>
  simp only at he;split at he
  ·split at he
   ·split at he
    ·split at he
     ·obtain⟨rfl,rfl,rfl,rfl⟩:=cD he;rfl
     obtain⟨rfl,rfl,rfl,rfl⟩:=cD he;rfl
    cases he
   split at he
   ·rename_i hr;obtain⟨hq,he⟩:=aQ he;obtain⟨rfl,rfl,rfl,rfl⟩:=cD he;exact iS hs hr hq
   cases he
  split at he
  ·cases he
  split at he
  ·split at he
   ·obtain⟨rfl,rfl,rfl,rfl⟩:=cD he;rfl
   cases he
  split at he
  ·split at he
   ·obtain⟨hq,he⟩:=aQ he;obtain⟨rfl,rfl,rfl,rfl⟩:=cD he;rfl
   cases he
  cases he
structure ku (C:Ctx) (n:Nat) (own:Nat→Bool) (ops:Array Oper) (al:List bx) (cm:Bool) (hs:List (Nat×Hint)) (F:Nat→AF) (M:Nat→AM) (V:Nat→AV):Prop where
 len:al.length=ops.size
 at_:∀(j:Nat),j<ops.size→∃o vc pr,ops[j]?=some o∧eu C.P own n ops o=some (al.getD j default)∧cI (ah C) (aA C) cm true (F j) (M j) (al.getD j default) (bF hs j)=some (vc,pr,V j,M (j+1))∧aI vc∧aP pr ∧
  F (j+1)=put (F j) (al.getD j default).dst (V j)
theorem BN {n:Nat} {own:Nat→Bool} {al:List bx} {cm:Bool} {hs:List (Nat×Hint)} {F:Nat→AF} {M:Nat→AM} {V:Nat→AV} (hT:ku C n own ops al cm hs F M V)
  (hd:∀p q,p<q→q<ops.size→dep (al.getD p default) (al.getD q default)=true→((dR ops.toList []).getD q 0).testBit p=true)
  {E:Nat→Bool} (hcl:∀(j:Nat) o,ops[j]?=some o→E j=true→∀e∈o.after.toList,Region.binds .any e=true→E e.on=true) {q:Nat} (hq:q<ops.size) (hqE:E q=false)
  (hr:∀o,ops[q]?=some o→∀e∈o.after.toList,Region.binds .any e=true→E e.on=true) {E':Nat→Bool} (hE':∀j,E' j=(j==q||E j))
  (hW:Wd C w0 S γ (GM (M 0) al M E ops.size) w) (hF:FR C.D n w S γ (GF (F 0) al V E ops.size) a) {K':Act→World→Prop} {Q:Exit→Act→World→Prop}
  (hK:∀a' w' S' γ',Ext w S γ w' S' γ'→Wd C w0 S' γ' (GM (M 0) al M E' ops.size) w'→FR C.D n w' S' γ' (GF (F 0) al V E' ops.size) a'→K' a' w'):wpOp C.P ops Q q K' a w:=by
 obtain⟨o,vc,pr,ho,hco,hev,hvc,hpr,hFq⟩:=hT.at_ q hq;obtain⟨ow,hkk,hdst,hlt,-⟩:=cJ hco;have before:∀p,p<q→dep (al.getD p default) (al.getD q default)=true→E p=true:=fun p hp hdp =>
  ahead (E:=fun j=>E j=true) (fun j o h1 h2 e h3 h4=>hcl j o (by rw[Array.getElem?_toList]at h1;exact h1) h2 e h3 h4) q o (by rw[Array.getElem?_toList];exact ho) (hr o ho) p (hd p q hp hq hdp)
 have behind:∀p,q<p→p<ops.size→dep (al.getD q default) (al.getD p default)=true→E p=false:=fun p hp hps hdp=>by
  cases hEp:E p with
  |false=>rfl
  |true =>
   obtain⟨op,_,_,hop,-⟩:=hT.at_ p hps;have:=ahead (E:=fun j=>E j=true) (fun j o h1 h2 e h3 h4=>hcl j o (by rw[Array.getElem?_toList]at h1;exact h1) h2 e h3 h4) p op (by rw[Array.getElem?_toList];exact hop) (hcl p op hop hEp) q (hd q p hp hps hdp);simp only[hqE]at this;cases this
 have reads:∀t∈eY (al.getD q default),get (GF (F 0) al V E ops.size) t=get (F q) t:=by
  intro t ht;have low:∀k,k≤q→get (GF (F 0) al V E k) t=get (F k) t:=by
   intro k;induction k with
   |zero=>intro _;rfl
   |succ k ih =>
    intro hk;obtain⟨_,_,_,_,_,_,_,_,hFk⟩:=hT.at_ k (by omega);have ih:=ih (by omega);rw[GF,hFk];by_cases hdt:(al.getD k default).dst=some t
    ·have hE:=before k (by omega) (by simp only[dep,oS hdt ht,Bool.true_or]);rw[hE,cond_true,hdt,bC,bC]
    rw[bh hdt];cases E k with
    |true=>rw[cond_true,bh hdt];exact ih
    |false=>exact ih
  have high:∀m,q+m≤ops.size→get (GF (F 0) al V E (q+m)) t=get (GF (F 0) al V E q) t:=by
   intro m;induction m with
   |zero=>intro _;rfl
   |succ m ih =>
    intro hm;have ih:=ih (by omega);show get (GF (F 0) al V E (q+m+1)) t=_;rw[GF];by_cases hdt:(al.getD (q+m) default).dst=some t
    ·have hE:E (q+m)=false:=by
      cases m with
      |zero=>exact hqE
      |succ m=>exact behind (q+(m+1)) (by omega) (by omega) (by simp only[dep,oS hdt ht,Bool.or_true,Bool.true_or])
     rw[hE];exact ih
    cases E (q+m) with
    |true=>rw[cond_true,bh hdt];exact ih
    |false=>exact ih
  have h1:=high (ops.size-q) (by omega);rw[show q+(ops.size-q)=ops.size by omega]at h1;rw[h1];exact low q (Nat.le_refl _)
 have calmM:∀k,k<ops.size→eZ (al.getD k default).k=false→M (k+1)=M k:=fun k hk he=>by
  obtain⟨_,_,_,_,_,hevk,_⟩:=hT.at_ k hk;exact eW (by simpa [eZ]using he) hevk
 have memq:still (al.getD q default).k=false→GM (M 0) al M E q=M q∧GM (M 0) al M E ops.size=M q:=by
  intro hns;have low:∀k,k≤q→GM (M 0) al M E k=M k:=by
   intro k;induction k with
   |zero=>intro _;rfl
   |succ k ih =>
    intro hk;have ih:=ih (by omega);rw[GM];cases he:eZ (al.getD k default).k with
    |true =>
     have hE:=before k (by omega) (by simp only[dep,he,hns,Bool.not_false,Bool.and_true,Bool.or_true,Bool.true_or]);rw[hE];rfl
    |false=>rw[Bool.and_false,cond_false,ih,calmM k (by omega) he]
  have high:∀m,q+m≤ops.size→GM (M 0) al M E (q+m)=GM (M 0) al M E q:=by
   intro m;induction m with
   |zero=>intro _;rfl
   |succ m ih =>
    intro hm;have ih:=ih (by omega);show GM (M 0) al M E (q+m+1)=_;rw[GM];cases he:eZ (al.getD (q+m) default).k with
    |true =>
     have hE:E (q+m)=false:=by
      cases m with
      |zero=>exact hqE
      |succ m=>exact behind (q+(m+1)) (by omega) (by omega) (by simp only[dep,he,hns,Bool.not_false,Bool.and_true,Bool.or_true])
     rw[hE];exact ih
    |false=>rw[Bool.and_false];exact ih
  have h1:=high (ops.size-q) (by omega);rw[show q+(ops.size-q)=ops.size by omega]at h1;exact⟨low q (Nat.le_refl _),h1.trans (low q (Nat.le_refl _))⟩
 have frameNe:∀t,(al.getD q default).dst≠some t→get (GF (F 0) al V E' ops.size) t=get (GF (F 0) al V E ops.size) t:=by
  intro t ht;have:∀k,get (GF (F 0) al V E' k) t=get (GF (F 0) al V E k) t:=by
   intro k;induction k with
   |zero=>rfl
   |succ k ih =>
    rw[GF,GF,hE'];by_cases hkq:k=q
    ·subst hkq;rw[hqE];simp only[beq_self_eq_true,Bool.true_or,cond_true,cond_false];rw[bh ht];exact ih
    rw[show(k==q)=false by simpa using hkq,Bool.false_or];cases E k with
    |true =>
     simp only[cond_true];by_cases hdt:(al.getD k default).dst=some t
     ·rw[hdt,bC,bC]
     rw[bh hdt,bh hdt];exact ih
    |false=>exact ih
  exact this _
 have frameEq:∀t,(al.getD q default).dst=some t→get (GF (F 0) al V E' ops.size) t=V q:=by
  intro t ht;have:∀m,q+1+m≤ops.size→get (GF (F 0) al V E' (q+1+m)) t=V q:=by
   intro m;induction m with
   |zero =>
    intro _;rw[Nat.add_zero,GF,hE'];simp only[beq_self_eq_true,Bool.true_or,cond_true];rw[ht,bC]
   |succ m ih =>
    intro hm;have ih:=ih (by omega);show get (GF (F 0) al V E' (q+1+m+1)) t=_;rw[GF,hE'];rw[show(q+1+m==q)=false by simp;omega,Bool.false_or];by_cases hdt:(al.getD (q+1+m) default).dst=some t
    ·have hE:=behind (q+1+m) (by omega) (by omega) (by simp only[dep,mS ht hdt,Bool.or_true,Bool.true_or]);rw[hE];exact ih
    cases E (q+1+m) with
    |true=>rw[cond_true,bh hdt];exact ih
    |false=>exact ih
  have h1:=this (ops.size-(q+1)) (by omega);rwa [show q+1+(ops.size-(q+1))=ops.size by omega]at h1
 have memE':(eZ (al.getD q default).k=false→GM (M 0) al M E' ops.size=GM (M 0) al M E ops.size)∧(eZ (al.getD q default).k=true→GM (M 0) al M E' ops.size=M (q+1)):=by
  refine⟨fun he=>?_,fun he=>?_⟩
  ·have:∀k,GM (M 0) al M E' k=GM (M 0) al M E k:=by
    intro k;induction k with
    |zero=>rfl
    |succ k ih =>
     rw[GM,GM,hE'];by_cases hkq:k=q
     ·subst hkq;rw[he,Bool.and_false,Bool.and_false];exact ih
     rw[show(k==q)=false by simpa using hkq,Bool.false_or,ih]
   exact this _
  have hns:still (al.getD q default).k=false:=by
   cases hk:(al.getD q default).k<;>rw[hk]at he<;>simp[eZ,calm]at he<;>simp[still,he]
  have:∀m,q+1+m≤ops.size→GM (M 0) al M E' (q+1+m)=M (q+1):=by
   intro m;induction m with
   |zero =>
    intro _;rw[Nat.add_zero,GM,hE',he];simp
   |succ m ih =>
    intro hm;have ih:=ih (by omega);show GM (M 0) al M E' (q+1+m+1)=_;rw[GM,hE'];rw[show(q+1+m==q)=false by simp;omega,Bool.false_or];cases he2:eZ (al.getD (q+1+m) default).k with
    |true =>
     have hE:=behind (q+1+m) (by omega) (by omega) (by simp only[dep,he2,hns,Bool.not_false,Bool.and_true,Bool.or_true]);rw[hE];exact ih
    |false=>rw[Bool.and_false];exact ih
  have h1:=this (ops.size-(q+1)) (by omega);rwa [show q+1+(ops.size-(q+1))=ops.size by omega]at h1
 have hvals:∀t∈eY (al.getD q default),VR w S γ (get (F q) t) (a.eval (.tmp t)):=fun t ht=>by
  rw[←reads t ht];exact hF.val t
 have fin:∀u w' S' γ',Ext w S γ w' S' γ'→Wd C w0 S' γ' (GM (M 0) al M E' ops.size) w'→VR w' S' γ' (V q) u→K' (a.put o.dst u) w':=by
  intro u w' S' γ' hE hW' hv;refine hK _ w' S' γ' hE hW' ?_;have hFx:=hF.ext hE;have h1:FR C.D n w' S' γ' (Pur.put (GF (F 0) al V E ops.size) o.dst (V q)) (a.put o.dst u):=hFx.put hv hlt;refine⟨h1.size,h1.defers,fun t=>?_⟩;have h2:=h1.val t;by_cases hdt:(al.getD q default).dst=some t
  ·rw[frameEq t hdt];rw[←hdst,hdt,bC]at h2;rw[←hdst,hdt];exact h2
  rw[frameNe t hdt];rw[←hdst]at h2;rw[bh hdt]at h2;rw[←hdst];exact h2
 cases hst:still (al.getD q default).k with
 |true =>
  have hcalm:eZ (al.getD q default).k=false:=by
   cases hk:(al.getD q default).k<;>rw[hk]at hst<;>simp[still]at hst<;>simp[eZ,calm,hst]
  have hev2:=jD hst hev (GM (M 0) al M E ops.size);refine dd ho (bL hW hco hev2 hvc hpr hvals fun u w' S' γ' hE hW' hv=>fin u w' S' γ' hE ?_ hv);rw[memE'.1 hcalm];exact hW'
 |false =>
  obtain⟨-,hm⟩:=memq hst;rw[hm]at hW;refine dd ho (bL hW hco hev hvc hpr hvals fun u w' S' γ' hE hW' hv=>fin u w' S' γ' hE ?_ hv);cases he:eZ (al.getD q default).k with
  |true=>rw[memE'.2 he];exact hW'
  |false=>rw[memE'.1 he,hm,←calmM q hq he];exact hW'
end
end
section
section
variable {C:Ctx} {w0 w:World} {S:Nat→Prop} {γ:Gh} {μ:AM} {f:AF} {a:Act} {o:Oper} {ops:Array Oper}
theorem fy {p q:Nat→Bool} {i:Nat}:∀(l:List Nat),i∈l→p i=true→q i=false→(∀j,q j=true→p j=true)→l.countP q<l.countP p
 |x::r,hi,hp,hq,hm=>by
  rw[List.countP_cons,List.countP_cons];have hle:r.countP q≤r.countP p:=List.countP_mono_left fun j _ h=>hm j h
  cases hi with
  |head=>rw[hp,hq];simp;omega
  |tail _ hi =>
   have ih:=fy r hi hp hq hm;cases hqx:q x with
   |true=>rw[hm x hqx];simp;omega
   |false=>simp;split<;>omega
theorem cN {listed:Array Bool} {i:Nat}:i∈Region.ready .any ops listed↔i<ops.size∧listed.getD i true=false∧∃o,ops[i]?=some o∧∀e∈o.after.toList,Region.binds .any e=true→listed.getD e.on false=true:=by
 unfold Region.ready;rw[List.mem_filter,List.mem_range];constructor
 ·rintro⟨h1,h2⟩;simp only[Bool.and_eq_true,Bool.not_eq_true']at h2;refine⟨h1,h2.1,?_⟩;have ho:ops[i]?=some ops[i]:=by simp[h1]
  refine⟨_,ho,fun e he hb=>?_⟩;have h3:=h2.2;rw[ho]at h3;simp only[Option.map_some,Option.getD_some]at h3;rw[Array.all_eq_true']at h3;have:=h3 e (by simpa using he);rw[hb]at this;simpa using this
 rintro⟨h1,h2,o,ho,h3⟩;refine⟨h1,?_⟩;rw[ho];simp only[Option.map_some,Option.getD_some,Bool.and_eq_true,Bool.not_eq_true'];refine⟨h2,?_⟩;rw[Array.all_eq_true'];intro e he;cases hb:Region.binds .any e with
 |false=>rfl
 |true=>simpa using h3 e (by simpa using he) hb
theorem Al {n m:Nat} {own:Nat→Bool} {al:List bx} {cm:Bool} {hs:List (Nat×Hint)} {F:Nat→AF} {M:Nat→AM} {V:Nat→AV} {R:Exit→AF→AM→Prop} (hT:ku C n own ops al cm hs F M V)
  (hedge:gE ops.toList 0=true) (hd:∀p q,p<q→q<ops.size→dep (al.getD p default) (al.getD q default)=true→((dR ops.toList []).getD q 0).testBit p=true) (hR:R .normal (F ops.size) (M ops.size)) :
  ∀(fuel:Nat) (listed:Array Bool) (S1:Nat→Prop) (γ1:Gh) (w1:World) (a1:Act),listed.size=ops.size→(List.range ops.size).countP (fun i=>!listed.getD i true)≤fuel →
   (∀(j:Nat) o,ops[j]?=some o→listed.getD j true=true→∀e∈o.after.toList,Region.binds .any e=true→listed.getD e.on true=true) →
   Ext w S γ w1 S1 γ1→Wd C w0 S1 γ1 (GM (M 0) al M (fun j=>listed.getD j true) ops.size) w1→FR C.D n w1 S1 γ1 (GF (F 0) al V (fun j=>listed.getD j true) ops.size) a1 →
   wpAny C.P .any ops (Ends C n m w0 w S γ R) fuel listed a1 w1:=by
 have edge:∀(j:Nat) o,ops[j]?=some o→∀e∈o.after.toList,Region.binds .any e=true→e.on<j:=fun j o ho e he hb=>by
  have:=gu ops.toList hedge (by rw[Array.getElem?_toList];exact ho) e he hb;omega
 have stop:∀(listed:Array Bool) (S1:Nat→Prop) (γ1:Gh) (w1:World) (a1:Act),listed.size=ops.size→Region.ready .any ops listed=[] →
   Ext w S γ w1 S1 γ1→Wd C w0 S1 γ1 (GM (M 0) al M (fun j=>listed.getD j true) ops.size) w1→FR C.D n w1 S1 γ1 (GF (F 0) al V (fun j=>listed.getD j true) ops.size) a1→Ends C n m w0 w S γ R .normal a1 w1:=by
  intro listed S1 γ1 w1 a1 hsz hnil hE hW hF;have all:∀j,j<ops.size→listed.getD j true=true:=by
   intro j;induction j using Nat.strongRecOn with
   |_ j ih =>
    intro hj;cases hl:listed.getD j true with
    |true=>rfl
    |false =>
     have ho:ops[j]?=some ops[j]:=by simp[hj]
     have:j∈Region.ready .any ops listed:=cN.mpr ⟨hj,hl,_,ho,fun e he hb=>by
      have h1:=edge j _ ho e he hb;have h2:=ih e.on h1 (by omega);have hlt:e.on<listed.size:=by omega
      simpa [Array.getD,hlt]using h2⟩
     rw[hnil]at this;cases this
  have hGF:∀k,k≤ops.size→GF (F 0) al V (fun j=>listed.getD j true) k=F k:=by
   intro k;induction k with
   |zero=>intro _;rfl
   |succ k ih =>
    intro hk;obtain⟨_,_,_,_,_,_,_,_,hFk⟩:=hT.at_ k (by omega);rw[GF,all k (by omega),cond_true,ih (by omega),hFk]
  have hGM:∀k,k≤ops.size→GM (M 0) al M (fun j=>listed.getD j true) k=M k:=by
   intro k;induction k with
   |zero=>intro _;rfl
   |succ k ih =>
    intro hk;rw[GM,all k (by omega),Bool.true_and];cases he:eZ (al.getD k default).k with
    |true=>rfl
    |false =>
     rw[cond_false,ih (by omega)];obtain⟨_,_,_,_,_,hevk,_⟩:=hT.at_ k (by omega);exact(eW (by simpa [eZ]using he) hevk).symm
  rw[hGM _ (Nat.le_refl _)]at hW;rw[hGF _ (Nat.le_refl _)]at hF;exact⟨S1,γ1,_,_,hE.ue m,hW,hF,hR⟩
 intro fuel;induction fuel with
 |zero =>
  intro listed S1 γ1 w1 a1 hsz hcnt hcl hE hW hF;have hnil:Region.ready .any ops listed=[]:=by
   cases hr:Region.ready .any ops listed with
   |nil=>rfl
   |cons i r =>
    have hi:i∈Region.ready .any ops listed:=by rw[hr];exact List.mem_cons_self
    obtain⟨h1,h2,-⟩:=cN.mp hi;have:0<(List.range ops.size).countP (fun i=>!listed.getD i true):=List.countP_pos_iff.mpr ⟨i,List.mem_range.mpr h1,by simp[h2]⟩;omega
  exact⟨hnil,stop listed S1 γ1 w1 a1 hsz hnil hE hW hF⟩
 |succ fuel ih =>
  intro listed S1 γ1 w1 a1 hsz hcnt hcl hE hW hF;refine⟨fun hnil=>stop listed S1 γ1 w1 a1 hsz hnil hE hW hF,fun q hq=>?_⟩;obtain⟨h1,h2,o,ho,h3⟩:=cN.mp hq;have hset:∀j,(listed.setIfInBounds q true).getD j true=(j==q||listed.getD j true):=fun j=>by
   by_cases hjq:j=q
   ·subst hjq;simp[Array.getD,hsz,h1]
   rw[show(j==q)=false by simpa using hjq,Bool.false_or];simp only[Array.getD_eq_getD_getElem?];rw[Array.getElem?_setIfInBounds_ne (Ne.symm hjq)]
  have hqE:∀e:Nat,e<ops.size→listed.getD e false=true→listed.getD e true=true:=fun e he h=>by
   have hlt:e<listed.size:=by omega
   simpa [Array.getD,hlt]using h
  have hrq:∀o,ops[q]?=some o→∀e∈o.after.toList,Region.binds .any e=true→listed.getD e.on true=true:=fun o' ho' e he hb=>by
   rw[ho]at ho';injection ho' with ho';subst ho'
   have:=edge q o ho e he hb;exact hqE e.on (by omega) (h3 e he hb)
  refine BN hT hd (E:=fun j=>listed.getD j true) hcl h1 h2 hrq (E':=fun j=>(listed.setIfInBounds q true).getD j true) hset hW hF fun a' w' S' γ' hE' hW' hF'=>?_
  refine ih (listed.setIfInBounds q true) S' γ' w' a' (by simp[hsz]) ?_ ?_ (hE.trans hE') hW' hF'
  ·have:=fy (p:=fun i=>!listed.getD i true) (q:=fun i=>!(listed.setIfInBounds q true).getD i true) (List.range ops.size) (List.mem_range.mpr h1) (by simp[h2]) (by rw[hset];simp) (fun j hj=>by
    rw[hset]at hj;simp only[Bool.not_or,Bool.and_eq_true]at hj;exact hj.2)
   omega
  intro j oj hoj hj e he hb;rw[hset]at hj ⊢;simp only[Bool.or_eq_true,beq_iff_eq]at hj ⊢;rcases hj with hj|hj
  ·subst hj;exact .inr (hrq oj hoj e he hb)
  exact .inr (hcl j oj hoj hj e he hb)
theorem FR.drew {D:List Deferred} {n:Nat} (h:FR D n w S γ f a) (hE:Ext w S γ w.drew S γ):FR D n w.drew S γ f a:=h.ext hE
def AW (C:Ctx) (n m:Nat) (c:Code) (R:Exit→AF→AM→Prop) (f:AF) (μ:AM):Prop :=
 ∀(w0:World) (S:Nat→Prop) (γ:Gh) (w:World) (a:Act),Wd C w0 S γ μ w→FR C.D n w S γ f a→c.wp C.P (Ends C n m w0 w S γ R) a w
theorem Ends.ext {n m:Nat} {w1:World} {S1:Nat→Prop} {γ1:Gh} {R:Exit→AF→AM→Prop} {x:Exit} {a':Act} {w':World} (hE:fH m w S γ w1 S1 γ1) (h:Ends C n m w0 w1 S1 γ1 R x a' w'):Ends C n m w0 w S γ R x a' w':=by
 obtain⟨S',γ',f',μ',h1,h2,h3,h4⟩:=h;exact⟨S',γ',f',μ',hE.trans h1,h2,h3,h4⟩
theorem Am {n m id:Nat} {draw cm:Bool} {own:Nat→Bool} {al:List bx} {hs:List (Nat×Hint)} {vc:VC} {pr:List Prop} {f':AF} {μ':AM} {R:Exit→AF→AM→Prop} (hc:dM C.P own n ops ops.toList=some al) (hd:draw=true→nR ops.toList al=true)
  (he:cV (ah C) (aA C) cm draw al hs 0 [] [] f μ=some (vc,pr,f',μ')) (hvc:aI vc) (hpr:aP pr) (hR:R .normal f' μ'):AW C n m (.region id ops draw) R f μ:=by
 intro w0 S γ w a hW hF;cases draw with
 |false=>exact wp_region (Ak hc he hvc hpr hR hW hF)
 |true =>
  obtain⟨-,F,M,V,h1,h2,h3,h4,h5⟩:=da al 0 [] [] f μ vc pr f' μ' he hvc hpr;obtain⟨hl,hat⟩:=dQ hc;replace hl:al.length=ops.size:=hl.trans (Array.length_toList);rw[Nat.zero_add]at h3 h4;have hT:ku C n own ops al cm hs F M V:=⟨hl,fun j hj=>by
   have ho:ops[j]?=some ops[j]:=by simp[hj]
   obtain⟨ao,hao,hco⟩:=hat j ops[j] (by rw[Array.getElem?_toList];exact ho);obtain⟨vcj,prj,k1,k2,k3,k4⟩:=h5 j ao hao;rw[Nat.zero_add]at k1 k4;have hg:al.getD j default=ao:=by rw[List.getD,hao];rfl
   exact⟨_,vcj,prj,ho,by rw[hg];exact hco,by rw[hg];exact k1,k2,k3,by rw[hg];exact k4⟩⟩
  have hok:=hd rfl;simp only[nR,Bool.and_eq_true]at hok;have hdep:∀p q,p<q→q<ops.size→dep (al.getD p default) (al.getD q default)=true→((dR ops.toList []).getD q 0).testBit p=true:=fun p q hpq hq hdp=>by
   have h6:=List.all_eq_true.mp hok.2 q (List.mem_range.mpr (by omega));have h7:=List.all_eq_true.mp h6 p (List.mem_range.mpr hpq);rw[hdp]at h7;simpa using h7
  obtain⟨hW1,hE1⟩:=hW.drew;refine wp_region_any C.mixed (Al hT hok.1 hdep (by rw[←hl,h3,h4];exact hR) ops.size (Array.replicate ops.size false) S γ w.drew a (by simp) (Nat.le_trans (List.countP_le_length) (by simp)) ?_ hE1 ?_ ?_)
  ·intro j o ho hj;have hjs:j<ops.size:=by
    apply Classical.byContradiction;intro hn;rw[Array.getElem?_eq_none (by omega)]at ho;cases ho
   simp[Array.getD,hjs]at hj
  ·have:∀k,k≤ops.size→GM (M 0) al M (fun j=>(Array.replicate ops.size false).getD j true) k=M 0:=by
    intro k;induction k with
    |zero=>intro _;rfl
    |succ k ih =>
     intro hk;have:(Array.replicate ops.size false).getD k true=false:=by simp[Array.getD];omega
     rw[GM,this,Bool.false_and,cond_false,ih (by omega)]
   rw[this _ (Nat.le_refl _),h2];exact hW1
  have:∀k,k≤ops.size→GF (F 0) al V (fun j=>(Array.replicate ops.size false).getD j true) k=F 0:=by
   intro k;induction k with
   |zero=>intro _;rfl
   |succ k ih =>
    intro hk;have:(Array.replicate ops.size false).getD k true=false:=by simp[Array.getD];omega
    rw[GF,this,cond_false,ih (by omega)]
  rw[this _ (Nat.le_refl _),h1];exact hF.drew hE1
end
end
section
section
variable {C:Ctx} {w0 w:World} {S:Nat→Prop} {γ:Gh} {μ:AM} {f:AF} {a:Act} {o:Oper} {ops:Array Oper}
def lP (x y:bx):Bool:=hit x.dst (eY y)||hit y.dst (eY x)||pW x.dst y.dst
def mT (x y:bx):Bool:=(eZ x.k&& !still y.k)||(!still x.k&&eZ y.k)
def mU (ops:List Oper) (al:List bx):Bool :=
 let B:=dR ops []
 gE ops 0&&(List.range al.length).all fun q=>(List.range q).all fun p=>!lP (al.getD p default) (al.getD q default)||(B.getD q 0).testBit p
def gv (ops:List Oper) (al:List bx):List (Nat×Nat) :=
 let B:=dR ops []
 ((List.range al.length).map fun q=>((List.range q).filter fun p=>mT (al.getD p default) (al.getD q default)&& !(B.getD q 0).testBit p).map fun p=>(p,q)).flatten
theorem gF {ops:List Oper} {al:List bx} {p q:Nat} (hp:p<q) (hq:q<al.length) (hd:mT (al.getD p default) (al.getD q default)=true) (hb:((dR ops []).getD q 0).testBit p=false):(p,q)∈gv ops al:=by
 unfold gv;simp only[List.mem_flatten,List.mem_map,List.mem_range];refine⟨_,⟨q,hq,rfl⟩,?_⟩;simp only[List.mem_map,List.mem_filter,List.mem_range];exact⟨p,⟨hp,by rw[hd,hb];rfl⟩,rfl⟩
theorem iT {fs:List dt}:∀{l:List (Nat×Nat)},eK fs l=true→∀p q,(p,q)∈l→cv (dp fs p) (dp fs q)=true
 |(p',q')::r,h,p,q,hm=>by
  simp only[eK,Bool.and_eq_true]at h;cases hm with
  |head=>exact h.1
  |tail _ hm=>exact iT h.2 p q hm
theorem cU {b:Nat}:∀{l:List Nat},fG b l=true→b ∉ l
 |[],_=>by simp
 |c::r,h=>by
  simp only[fG,Bool.and_eq_true,Bool.not_eq_true']at h;intro hm;cases hm with
  |head=>simp at h
  |tail _ hm=>exact cU h.2 hm
def qT (μ μ2:AM) (l:List Nat):Prop:=∀b,b∈l→μ2[b]?=μ[b]?
theorem sY {μ2:AM} {v:AV} (ha:qT μ μ2 (cz [v])):bI μ2 v=bI μ v:=by
 cases v with
 |ref b g off n=>simp only[bI,ha b (by simp[cz])]
 |map b g=>simp only[bI,ha b (by simp[cz])]
 |fn g c=>cases c<;>rfl
 |_=>rfl
theorem kx {g g':AV→Option PV}:∀{l:List AV},(∀v∈l,g' v=g v)→dw g' l=dw g l
 |[],_=>rfl
 |v::r,h=>by
  simp only[dw];rw[h v (by simp),kx fun v hv=>h v (by simp[hv])]
theorem xN {b:Nat} {v:AV} {l:List AV} (hv:v∈l) (hb:b∈cz [v]):b∈cz l:=mQ hb hv
theorem vP {μ2:AM} {as:List AV} (ha:qT μ μ2 (refsOf as)):gI μ2 as=gI μ as:=by
 refine kx fun v hv=>?_
 cases v with
 |agg l =>
  simp only[fq];rw[kx (g:=bI μ) (g':=bI μ2) fun v' hv'=>sY fun b hb=>ha b (iR (xN hv' hb) hv)]
 |ref b g off n =>
  simp only[fq,bI,ha b (ko (b:=b) (by simp[cz]) hv)]
 |map b g =>
  simp only[fq,bI,ha b (ko (b:=b) (by simp[cz]) hv)]
 |fn g c=>cases c<;>rfl
 |_=>rfl
def Loc (ft:dt) (μ μ':AM) (G:AM→AM→Prop):Prop:=match ft with
 | .none=>μ'=μ∧∀μ2,G μ2 μ2
 | .rd l=>μ'=μ∧∀μ2,qT μ μ2 l→G μ2 μ2
 | .wr b l=>l=[b]∧∃nb,b<μ.length∧μ'=μ.set b nb∧∀μ2,qT μ μ2 l→G μ2 (μ2.set b nb)
 | .al nb=>nb=μ.length∧∃x,μ'=μ++[x]∧∀μ2:AM,μ2.length=μ.length→G μ2 (μ2++[x])
 | .big m n=>n=μ.length∧∀b,b<n→b ∉ m→μ'[b]?=μ[b]?
 | .top=>True
theorem Loc.imp {ft:dt} {μ μ':AM} {G G':AM→AM→Prop} (h:Loc ft μ μ' G) (hg:∀a b,G a b→G' a b):Loc ft μ μ' G':=by
 cases ft with
 |none=>exact⟨h.1,fun m=>hg _ _ (h.2 m)⟩
 |rd l=>exact⟨h.1,fun m hm=>hg _ _ (h.2 m hm)⟩
 |wr b l=>obtain⟨h0,nb,h1,h2,h3⟩:=h;exact⟨h0,nb,h1,h2,fun m hm=>hg _ _ (h3 m hm)⟩
 |al nb=>obtain⟨h0,x,h1,h2⟩:=h;exact⟨h0,x,h1,fun m hm=>hg _ _ (h2 m hm)⟩
 |big m n=>exact h
 |top=>trivial
theorem im {l:List Nat} {μ μ':AM} {G:AM→AM→Prop} (h1:μ'=μ) (h2:∀μ2,qT μ μ2 l→G μ2 μ2):Loc (dx l) μ μ' G:=by
 cases l with
 |nil=>exact⟨h1,fun m=>h2 m fun b hb=>by simp at hb⟩
 |cons b r=>exact⟨h1,h2⟩
theorem ky {X:FuncId→List PV→PV→Prop} {Y:FuncId→List AV→AM→AV→AM→Prop} {h:Hint} {g:FuncId} {as:List AV} {vc:VC} {pr:List Prop} {v:AV} {μ':AM} (he:dW X Y μ h g as=some (vc,pr,v,μ'))
  (hm:h.mem=none) (hr:h.ro=false) (hq:h.frz=false∧((refsOf as).isEmpty||dD v)=true):μ'=μ∧∀μ2,qT μ μ2 (refsOf as)→dW X Y μ2 h g as=some (vc,pr,v,μ2):=by
 refine⟨fN he hm (.inr hq),fun μ2 ha=>?_⟩;have hth:=vP ha;unfold dW at he ⊢;cases hv:h.val with
 |none=>rw[hv]at he;cases he
 |some v' =>
  rw[hv]at he;simp only[hm,hr]at he ⊢;cases v' with
  |pv r =>
   simp only at he ⊢;cases hargs:h.args with
   |some ps =>
    rw[hargs]at he;simp only at he ⊢;obtain⟨rfl,rfl,rfl,rfl⟩:=cD he;rw[hth,hq.1,kr hq.2]
   |none =>
    rw[hargs]at he;simp only[hth]at he ⊢;cases hp:gI μ as with
    |none=>rw[hp]at he;cases he
    |some ps =>
     rw[hp]at he;simp only at he ⊢;obtain⟨rfl,rfl,rfl,rfl⟩:=cD he;rw[hq.1,kr hq.2]
  |_=>cases he
theorem vQ:∀(l:List (Nat×dI)) (μ:AM),(gJ μ l).length=μ.length
 |[],_=>rfl
 |(b,k)::r,μ=>by rw[gJ,vQ r,List.length_set]
theorem vR {b:Nat}:∀(l:List (Nat×dI)) (μ:AM),b ∉ l.map (·.1)→(gJ μ l)[b]?=μ[b]?
 |[],_,_=>rfl
 |(c,k)::r,μ,h=>by
  simp only[List.map_cons,List.mem_cons,not_or]at h;rw[gJ,vR r _ h.2,List.getElem?_set_ne (Ne.symm h.1)]
theorem An {X:FuncId→List PV→PV→Prop} {Y:FuncId→List AV→AM→AV→AM→Prop} {h:Hint} {k:K} {vc:VC} {pr:List Prop} {v:AV} {μ':AM} (he:bG X Y f μ h k=some (vc,pr,v,μ')) (hq:quiet true h f k v=true) :
  Loc (aV μ f h k) μ μ' fun μ2 μ2'=>bG X Y f μ2 h k=some (vc,pr,v,μ2'):=by
 have viaK:∀{ft:dt} {k:K},(∀μ,bG X Y f μ h k=match cT f μ h.mode k with
   |some (vc,v,μ')=>match h.val with
    |some v'=>some (vc,[v=v'],v',μ')
    |none=>some (vc,[],v,μ')
   |none=>none)→bG X Y f μ h k=some (vc,pr,v,μ')→(∀v0,cT f μ h.mode k=some (vc,v0,μ')→Loc ft μ μ' fun μ2 μ2'=>cT f μ2 h.mode k=some (vc,v0,μ2'))→Loc ft μ μ' fun μ2 μ2'=>bG X Y f μ2 h k=some (vc,pr,v,μ2'):=by
  intro ft k hk he hl;rw[hk]at he;cases hev:cT f μ h.mode k with
  |none=>rw[hev]at he;cases he
  |some q =>
   obtain⟨vc',v',m⟩:=q;rw[hev]at he;simp only at he;have hvm:vc'=vc∧m=μ':=by
    cases hv:h.val with
    |none=>rw[hv]at he;obtain⟨rfl,rfl,rfl,rfl⟩:=cD he;exact⟨rfl,rfl⟩
    |some x=>rw[hv]at he;obtain⟨rfl,rfl,rfl,rfl⟩:=cD he;exact⟨rfl,rfl⟩
   obtain⟨rfl,rfl⟩:=hvm;refine(hl v' hev).imp fun m1 m2 hm=>?_
   rw[hk,hm];simp only;cases hv:h.val with
   |none=>rw[hv]at he;obtain⟨-,rfl,rfl,-⟩:=cD he;rfl
   |some x=>rw[hv]at he;obtain⟨-,rfl,rfl,-⟩:=cD he;rfl
 have stl:∀{k:K},still k=true→(∀μ,bG X Y f μ h k=match cT f μ h.mode k with
   |some (vc,v,μ')=>match h.val with
    |some v'=>some (vc,[v=v'],v',μ')
    |none=>some (vc,[],v,μ')
   |none=>none)→bG X Y f μ h k=some (vc,pr,v,μ')→Loc .none μ μ' fun μ2 μ2'=>bG X Y f μ2 h k=some (vc,pr,v,μ2'):=by
  intro k hs hk he;refine viaK (ft:=.none) hk he fun v0 hev=>⟨?_,fun μ2=>tv hs hev μ2⟩
  have hc:calm k=true:=by cases k<;>first|rfl|(simp[still]at hs;done)|(simpa [still,calm]using hs)
  exact vN hc hev
 cases k with
 |call g as =>
  simp only[quiet,quiet.isCallK]at hq;simp only[aV];cases hm:h.mem with
  |some m=>rw[hm]at hq;cases hq
  |none =>
   rw[hm]at hq;simp only at hq;cases hr:h.ro with
   |true=>trivial
   |false =>
    rw[hr]at hq;simp only[Bool.false_or,Bool.and_eq_true,Bool.not_eq_true',cP]at hq;simp only[bG]at he ⊢;obtain⟨h1,h2⟩:=ky he hm hr hq;exact im h1 h2
 |callv x as =>
  simp only[quiet,quiet.isCallK]at hq;simp only[aV];cases hm:h.mem with
  |some m=>rw[hm]at hq;cases hq
  |none =>
   rw[hm]at hq;simp only at hq;cases hr:h.ro with
   |true=>trivial
   |false =>
    rw[hr]at hq;simp only[Bool.false_or,Bool.and_eq_true,Bool.not_eq_true',cP]at hq;simp only[bG]at he ⊢;split at he
    ·rename_i g caps hg;simp only[hg]at hq ⊢;obtain⟨h1,h2⟩:=ky he hm hr hq;exact im h1 h2
    ·rename_i g first hg
     simp only[hg]at hq ⊢;obtain⟨h1,h2⟩:=ky he hm hr hq;exact im h1 h2
    ·rename_i g hg;simp only[hg]at hq ⊢;obtain⟨h1,h2⟩:=ky he hm hr hq;exact im h1 h2
    cases he
 |load x s ag =>
  simp only[aV];split
  ·rename_i b g o' hx;refine viaK (fun _=>rfl) he fun v0 hev=>?_
   simp only[cT,hx]at hev;split at hev
   ·rename_i kk hkk;obtain⟨hz,hev⟩:=bE hev;obtain⟨h1,h2,h3⟩:=aS hev;refine⟨h3.symm,fun μ2 ha=>?_⟩;have:=(ha b (by simp)).trans hkk;simp only[cT,hx,this,hz,cond_false];rw[h1,h2]
   cases hev
  ·rename_i l o' hx;refine viaK (fun _=>rfl) he fun v0 hev=>?_
   simp only[cT,hx]at hev;obtain⟨h1,h2,h3⟩:=aS hev;refine⟨h3.symm,fun μ2=>?_⟩;simp only[cT,hx];rw[h1,h2]
  trivial
 |slice x lo hi s =>
  simp only[aV];split
  ·rename_i b g o' n hx;refine viaK (fun _=>rfl) he fun v0 hev=>?_
   simp only[cT,hx]at hev;split at hev
   ·rename_i kk hkk;obtain⟨hz,hev⟩:=bE hev;split at hev
    ·rename_i i j hi hj;obtain⟨h1,h2,h3⟩:=aS hev;refine⟨h3.symm,fun μ2 ha=>?_⟩;have:=(ha b (by simp)).trans hkk;simp only[cT,hx,this,hz,cond_false,hi,hj];rw[h1,h2]
    cases hev
   cases hev
  ·rename_i p hx;refine viaK (fun _=>rfl) he fun v0 hev=>?_
   simp only[cT,hx]at hev;cases p with
   |sl n l =>
    simp only at hev;split at hev
    ·rename_i i j hi hj;obtain⟨h1,h2,h3⟩:=aS hev;refine⟨h3.symm,fun μ2=>?_⟩;simp only[cT,hx,hi,hj];rw[h1,h2]
    cases hev
   |nilsl =>
    simp only at hev;split at hev
    ·rename_i i j hi hj;obtain⟨h1,h2,h3⟩:=aS hev;refine⟨h3.symm,fun μ2=>?_⟩;simp only[cT,hx,hi,hj];rw[h1,h2]
    cases hev
   |_=>cases hev
  trivial
 |store x y s =>
  simp only[aV];split
  ·rename_i b g o' hx;refine viaK (fun _=>rfl) he fun v0 hev=>?_
   simp only[cT,hx]at hev;split at hev
   ·rename_i kk hkk;obtain⟨hb,hev⟩:=aQ hev;obtain⟨h1,h2,h3⟩:=aS hev;refine⟨rfl,_,(List.getElem?_eq_some_iff.mp hkk).1,h3.symm,fun μ2 ha=>?_⟩;have:=(ha b (by simp)).trans hkk;simp only[cT,hx,this,hb,cond_true];rw[h1,h2]
   cases hev
  trivial
 |alloc e z =>
  refine viaK (ft:=.al μ.length) (fun _=>rfl) he fun v0 hev=>?_
  simp only[cT]at hev;obtain⟨hz,hev⟩:=bE hev;obtain⟨h1,h2,h3⟩:=aS hev;refine⟨rfl,_,h3.symm,fun μ2 hl=>?_⟩;simp only[cT,hz,cond_false,hl];rw[h1,h2]
 |mkMap =>
  refine viaK (ft:=.al μ.length) (fun _=>rfl) he fun v0 hev=>?_
  simp only[cT]at hev;obtain⟨h1,h2,h3⟩:=aS hev;refine⟨rfl,_,h3.symm,fun μ2 hl=>?_⟩;simp only[cT,hl];rw[h1,h2]
 |mkSl e s z n =>
  refine viaK (ft:=.al μ.length) (fun _=>rfl) he fun v0 hev=>?_
  simp only[cT]at hev;split at hev
  ·rename_i x hx;obtain⟨hz,hev⟩:=bE hev;obtain⟨h1,h2,h3⟩:=aS hev;refine⟨rfl,_,h3.symm,fun μ2 hl=>?_⟩;simp only[cT,hx,hz,cond_false,hl];rw[h1,h2]
  cases hev
 |mapSet add kd x k y =>
  simp only[aV];split
  ·rename_i b g hx;refine viaK (fun _=>rfl) he fun v0 hev=>?_
   simp only[cT,hx]at hev;split at hev
   ·rename_i b1 g1 key hbg hq;injection hbg with e1 e2
    subst e1 e2;split at hev
    ·rename_i kk hkk;obtain⟨hb,hev⟩:=bE hev;obtain⟨h1,h2,h3⟩:=aS hev;refine⟨rfl,_,(List.getElem?_eq_some_iff.mp hkk).1,h3.symm,fun μ2 ha=>?_⟩;have:=(ha b (by simp)).trans hkk;simp only[cT,hx,hq,this,hb,cond_false];rw[h1,h2]
    cases hev
   cases hev
  trivial
 |mapGet ok kd z x k =>
  simp only[aV];split
  ·rename_i b g hx;refine viaK (fun _=>rfl) he fun v0 hev=>?_
   simp only[cT,hx]at hev;split at hev
   ·rename_i key hq;obtain⟨hb,hev⟩:=bE hev;split at hev
    ·rename_i kk hkk;obtain⟨hz,hev⟩:=bE hev;obtain⟨h1,h2,h3⟩:=aS hev;refine⟨h3.symm,fun μ2 ha=>?_⟩;have:=(ha b (by simp)).trans hkk;simp only[cT,hx,hq,this,hb,hz,cond_false];rw[h1,h2]
    cases hev
   cases hev
  ·rename_i p hx;refine viaK (fun _=>rfl) he fun v0 hev=>?_
   simp only[cT,hx]at hev;split at hev
   ·rename_i key hq;obtain⟨hb,hev⟩:=bE hev;cases p with
    |mp l =>
     simp only at hev;obtain⟨h1,h2,h3⟩:=aS hev;refine⟨h3.symm,fun μ2=>?_⟩;simp only[cT,hx,hq,hb,cond_false];rw[h1,h2]
    |_=>cases hev
   cases hev
  trivial
 |lenM x =>
  simp only[aV];split
  ·rename_i b g hx;refine viaK (fun _=>rfl) he fun v0 hev=>?_
   simp only[cT,hx]at hev;split at hev
   ·rename_i kk hkk;obtain⟨hz,hev⟩:=bE hev;obtain⟨h1,h2,h3⟩:=aS hev;refine⟨h3.symm,fun μ2 ha=>?_⟩;have:=(ha b (by simp)).trans hkk;simp only[cT,hx,this,hz,cond_false];rw[h1,h2]
   cases hev
  ·rename_i p hx;refine viaK (fun _=>rfl) he fun v0 hev=>?_
   simp only[cT,hx]at hev;cases p with
   |mp l =>
    simp only at hev;obtain⟨h1,h2,h3⟩:=aS hev;refine⟨h3.symm,fun μ2=>?_⟩;simp only[cT,hx];rw[h1,h2]
   |_=>cases hev
  trivial
 |box e x sz =>
  refine viaK (ft:=.al μ.length) (fun _=>rfl) he fun v0 hev=>?_
  simp only[cT]at hev;obtain⟨hb,hev⟩:=aQ hev;obtain⟨h1,h2,h3⟩:=aS hev;refine⟨rfl,_,h3.symm,fun μ2 hl=>?_⟩;simp only[cT,hb,cond_true,hl];rw[h1,h2]
 |append=>trivial
 |appS=>trivial
 |lit own e s l z ps =>
  cases own with
  |true =>
   refine viaK (ft:=.al μ.length) (fun _=>rfl) he fun v0 hev=>?_
   simp only[cT]at hev;split at hev
   ·rename_i cs hcs;obtain⟨h1,h2,h3⟩:=aS hev;refine⟨rfl,_,h3.symm,fun μ2 hl=>?_⟩;simp only[cT,hcs,cond_true,hl];rw[h1,h2]
   cases hev
  |false=>exact stl rfl (fun _=>rfl) he
 |callB g as =>
  simp only[aV];simp only[bG]at he;split at he
  ·obtain⟨-,-,-,rfl⟩:=cD he;refine⟨rfl,fun b hb hm=>?_⟩;unfold dn;rw[List.getElem?_append_left (by rw[vQ];exact hb),vR _ _ hm]
  cases he
 |copy x y s=>simp only[aV,still];trivial
 |_=>exact stl rfl (fun _=>rfl) he
theorem mr {X:FuncId→List PV→PV→Prop} {Y:FuncId→List AV→AM→AV→AM→Prop} {ao:bx} {h:Hint} {vc:VC} {pr:List Prop} {v:AV} {μ':AM} (he:cI X Y true true f μ ao h=some (vc,pr,v,μ')) :
  Loc (aV μ (aN f (tmpsOf ao.k)) h ao.k) μ μ' fun μ2 μ2'=>cI X Y true true f μ2 ao h=some (vc,pr,v,μ2'):=by
 cases hst:still ao.k with
 |true =>
  have hc:calm ao.k=true:=by cases hk:ao.k<;>rw[hk]at hst<;>first|rfl|(simp[still]at hst;done)|(simpa [still,calm]using hst)
  have hft:aV μ (aN f (tmpsOf ao.k)) h ao.k= .none:=by
   cases hk:ao.k<;>rw[hk]at hst<;>simp only[still]at hst<;>first|(cases hst;done)|rfl|(simp only[aV,still,hst];done)|(rename_i own _ _ _ _ _;cases own<;>first|rfl|(simp at hst))
  rw[hft];exact⟨eW hc he,fun μ2=>jD hst he μ2⟩
 |false =>
  have hnp:∀x y z,ao.k≠.pick x y z:=fun x y z hk=>by rw[hk]at hst;simp[still]at hst
  have main:∀{q:List Prop→VC→AV→VC×List Prop×AV} {au:Bool},(∀μ0,cI X Y true true f μ0 ao h=match bG X Y (aN f (tmpsOf ao.k)) μ0 h ao.k with
    |some (vc,pr,v,m)=>bif quiet true h (aN f (tmpsOf ao.k)) ao.k v then some ((q pr vc v).1,(q pr vc v).2.1,(q pr vc v).2.2,bif au then μ0 else m) else none
    |none=>none)→(au=true→calm ao.k=true)→Loc (aV μ (aN f (tmpsOf ao.k)) h ao.k) μ μ' fun μ2 μ2'=>cI X Y true true f μ2 ao h=some (vc,pr,v,μ2'):=by
   intro q au hq hkeep;have he':=he;rw[hq]at he';cases hr:bG X Y (aN f (tmpsOf ao.k)) μ h ao.k with
   |none=>rw[hr]at he';cases he'
   |some r =>
    obtain⟨vc1,pr1,v1,m1⟩:=r;rw[hr]at he';obtain⟨hqt,he'⟩:=aQ he';obtain⟨e1,e2,e3,e4⟩:=cD he';have hm:m1=μ':=by
     cases au with
     |false=>exact e4
     |true =>
      have:=iS (hkeep rfl) hr hqt;rw[this];exact e4
    subst hm;have hl:=An hr hqt;have hcalmft:au=true→(∀b l,aV μ (aN f (tmpsOf ao.k)) h ao.k≠.wr b l)∧∀nb,aV μ (aN f (tmpsOf ao.k)) h ao.k≠.al nb:=fun hk=>by
     have hc:=hkeep hk;revert hc;generalize ao.k=k;intro hc;refine⟨fun b l hf=>?_,fun nb hf=>?_⟩;all_goals
      cases k<;>simp only[aV,calm]at hf hc<;>first|(cases hc;done)|skip
     all_goals repeat' split at hf
     all_goals first
      |(cases hf;done)
      |(unfold dx at hf;split at hf<;>cases hf;done)
      |(simp at hc;done)
    have rew:∀m m',bG X Y (aN f (tmpsOf ao.k)) m h ao.k=some (vc1,pr1,v1,m')→(au=true→m'=m)→cI X Y true true f m ao h=some (vc,pr,v,m'):=fun m m' hm hk=>by
     rw[hq,hm];simp only[hqt,cond_true];rw[e1,e2,e3];cases au with
     |false=>rfl
     |true=>rw[hk rfl];rfl
    revert hl hcalmft;generalize aV μ (aN f (tmpsOf ao.k)) h ao.k=ft;intro hl hcalmft;cases ft with
    |none=>exact⟨hl.1,fun m=>rew m m (hl.2 m) fun _=>rfl⟩
    |rd l=>exact⟨hl.1,fun m hm=>rew m m (hl.2 m hm) fun _=>rfl⟩
    |wr b l =>
     obtain⟨h0,nb,h1,h2,h3⟩:=hl;exact⟨h0,nb,h1,h2,fun m hm=>rew m _ (h3 m hm) fun hk=>absurd rfl ((hcalmft hk).1 b l)⟩
    |al nb =>
     obtain⟨h0,x,h1,h2⟩:=hl;exact⟨h0,x,h1,fun m hm=>rew m _ (h2 m hm) fun hk=>absurd rfl ((hcalmft hk).2 nb)⟩
    |big m n=>exact hl
    |top=>trivial
  cases hg:ao.guard with
  |none =>
   refine main (q:=fun pr vc v=>(vc,conds true f (tmpsOf ao.k)++pr,v)) (au:=false) (fun μ0=>?_) (fun h=>by cases h);unfold cI;simp only[hg];revert hnp;generalize ao.k=k;intro hnp;cases k;case pick x y z=>exact absurd rfl (hnp x y z)
   all_goals rfl
  |some gd =>
   cases hgc:iN f (some gd) with
   |none =>
    exfalso;unfold cI at he;simp only[hg,hgc]at he;cases he
   |some c =>
    cases hc:calm ao.k with
    |false =>
     exfalso;unfold cI at he;simp only[hg,hgc]at he;revert he hnp hc;generalize ao.k=k;intro hnp hc he;cases k;case pick x y z=>exact absurd rfl (hnp x y z)
     case lit own e s l z ps =>
      cases own with
      |false=>exact absurd (show true=false from hc) (by decide)
      |true=>cases (show none=some (vc,pr,v,μ') from he)
     all_goals first
      |(exact absurd (show true=false from hc) (by decide))
      |(cases (show none=some (vc,pr,v,μ') from he))
    |true =>
     refine main (q:=fun pr vc v=>([],[c=true→aI vc∧aP (conds true f (tmpsOf ao.k))∧aP pr],.ifb c v)) (au:=true) (fun μ0=>?_) (fun _=>hc);unfold cI;simp only[hg,hgc];revert hnp hc;generalize ao.k=k;intro hnp hc;cases k;case pick x y z=>exact absurd rfl (hnp x y z)
     all_goals first
      |rfl
      |(simp only[hc];rfl)
end
end
section
section
variable {C:Ctx} {w0 w:World} {S:Nat→Prop} {γ:Gh} {μ:AM} {f:AF} {a:Act} {o:Oper} {ops:Array Oper}
theorem qU {x y:bx} (h1:eZ x.k=true) (h2:still y.k=false):mT x y=true:=by simp only[mT,h1,h2,Bool.not_false,Bool.and_true,Bool.true_or]
theorem qV {x y:bx} (h1:still x.k=false) (h2:eZ y.k=true):mT x y=true:=by simp only[mT,h1,h2,Bool.not_false,Bool.and_true,Bool.or_true]
def lz:dt→Bool
 | .big _ _=>true
 | .top=>true
 |_=>false
theorem BO {h:Hint} {k:K} (he:eZ k=true):(∃b l,aV μ f h k= .wr b l)∨lz (aV μ f h k)=true∨∃nb,aV μ f h k= .al nb:=by
 cases k<;>simp only[eZ,calm]at he<;>first|(cases he;done)|skip
 case store x y s =>
  simp only[aV];split
  ·exact .inl ⟨_,_,rfl⟩
  exact .inr (.inl rfl)
 case lit own e s l z ps =>
  have:own=true:=by simpa using he
  subst this;exact .inr (.inr ⟨_,rfl⟩)
 case mapSet add kd x k y =>
  simp only[aV];split
  ·exact .inl ⟨_,_,rfl⟩
  exact .inr (.inl rfl)
 case mkMap=>exact .inr (.inr ⟨_,rfl⟩)
 case mkSl=>exact .inr (.inr ⟨_,rfl⟩)
 case alloc=>exact .inr (.inr ⟨_,rfl⟩)
 case box=>exact .inr (.inr ⟨_,rfl⟩)
 all_goals exact .inr (.inl rfl)
theorem EC {h:Hint} {k:K} {b:Nat} {l:List Nat} (hf:aV μ f h k= .wr b l):eZ k=true:=by
 cases k<;>simp only[aV]at hf;case store=>rfl
 case mapSet=>rfl
 all_goals repeat' split at hf
 all_goals first
  |(cases hf;done)
  |(unfold dx at hf;split at hf<;>cases hf;done)
  |rfl
theorem ED {h:Hint} {k:K} {nb:Nat} (hf:aV μ f h k= .al nb):eZ k=true:=by
 cases k<;>simp only[aV]at hf;case alloc=>rfl
 case box=>rfl
 case mkMap=>rfl
 case mkSl=>rfl
 all_goals repeat' split at hf
 all_goals first
  |(cases hf;done)
  |(unfold dx at hf;split at hf<;>cases hf;done)
  |rfl
theorem set_push {l:AM} {b:Nat} {x y:dI} (h:b≠l.length):(l++[x]).set b y=l.set b y++[x]:=by
 by_cases hb:b<l.length
 ·rw[List.set_append_left _ _ hb]
 rw[List.set_eq_of_length_le (by simp;omega),List.set_eq_of_length_le (by omega)]
theorem lQ {l:AM} {b:Nat} {x:dI} (h:b≠l.length):(l++[x])[b]?=l[b]?:=by
 by_cases hb:b<l.length
 ·rw[List.getElem?_append_left hb]
 rw[List.getElem?_eq_none (by simp;omega),List.getElem?_eq_none (by omega)]
def fj (x:dt) (g m:AM):AM:=match x with
 | .wr b _=>match m[b]? with
  |some x=>g.set b x
  |none=>g
 | .al nb=>match m[nb]? with
  |some x=>g++[x]
  |none=>g
 |_=>m
theorem nS {x:dt} (h:lz x=true):x= .top∨∃m n,x= .big m n:=by
 cases x with
 |top=>exact .inl rfl
 |big m n=>exact .inr ⟨m,n,rfl⟩
 |_=>cases h
theorem jQ {x:dt} (h:lz x=true) (g m:AM):fj x g m=m:=by
 cases x<;>first|rfl|cases h
theorem iq {x y:dt} (h:lz x=true) (hy:(∃b l,y= .wr b l)∨lz y=true∨∃nb,y= .al nb):cv x y=false∧cv y x=false:=by
 rcases hy with⟨b,l,rfl⟩|hy|⟨nb,rfl⟩
 ·cases x<;>first|exact⟨rfl,rfl⟩|cases h
 ·rcases nS h with rfl|⟨m,n,rfl⟩<;>rcases nS hy with rfl|⟨m',n',rfl⟩<;>exact⟨rfl,rfl⟩
 cases x<;>first|exact⟨rfl,rfl⟩|cases h
theorem oT {m:List Nat} {n:Nat}:∀{l:List Nat},apart m n l=true→∀b∈l,b<n∧b ∉ m
 |c::r,h,b,hb=>by
  simp only[apart,Bool.and_eq_true]at h;rcases List.mem_cons.mp hb with rfl|hb
  ·exact⟨Nat.blt_eq.mp h.1.1,cU h.1.2⟩
  exact oT h.2 b hb
def dv (μ0:AM) (al:List bx) (ft:Nat→dt) (M:Nat→AM) (E:Nat→Bool):Nat→AM
 |0=>μ0
 |k+1=>bif E k&&eZ (al.getD k default).k then fj (ft k) (dv μ0 al ft M E k) (M (k+1)) else dv μ0 al ft M E k
structure nT (C:Ctx) (n:Nat) (own:Nat→Bool) (ops:Array Oper) (al:List bx) (hs:List (Nat×Hint)) (F:Nat→AF) (M:Nat→AM) (V:Nat→AV) (bad:Nat→Bool):Prop where
 len:al.length=ops.size
 at_:∀(j:Nat),j<ops.size→∃o vc pr,ops[j]?=some o∧eu C.P own n ops o=some (al.getD j default)∧cI (ah C) (aA C) true true (F j) (M j) (al.getD j default) (bF hs j)=some (vc,pr,V j,M (j+1))∧(bad j=false→aI vc)∧(bad j=false→aP pr) ∧
  F (j+1)=put (F j) (al.getD j default).dst (V j)
theorem ku.b {n:Nat} {own:Nat→Bool} {al:List bx} {hs:List (Nat×Hint)} {F:Nat→AF} {M:Nat→AM} {V:Nat→AV} (h:ku C n own ops al true hs F M V):nT C n own ops al hs F M V (fun _=>false) :=
 ⟨h.len,fun j hj=>by
  obtain⟨o,vc,pr,h1,h2,h3,h4,h5,h6⟩:=h.at_ j hj;exact⟨o,vc,pr,h1,h2,h3,fun _=>h4,fun _=>h5,h6⟩⟩
theorem oU {n:Nat} {own:Nat→Bool} {al:List bx} {hs:List (Nat×Hint)} {F:Nat→AF} {M:Nat→AM} {V:Nat→AV} {ft:Nat→dt} {bad:Nat→Bool} (hT:nT C n own ops al hs F M V bad)
  (hft:∀k,k<ops.size→ft k=aV (M k) (aN (F k) (tmpsOf (al.getD k default).k)) (bF hs k) (al.getD k default).k)
  {B:Nat→Nat→Prop} (hd:∀p q,p<q→q<ops.size→lP (al.getD p default) (al.getD q default)=true→B p q)
  (hm:∀p q,p<q→q<ops.size→mT (al.getD p default) (al.getD q default)=true→B p q∨cv (ft p) (ft q)=true)
  {E:Nat→Bool} (hclB:∀j k,j<k→k<ops.size→B j k→E k=true→E j=true) {q:Nat} (hq:q<ops.size) (hqE:E q=false) (hbq:bad q=false) (beforeO:∀p,p<q→B p q→E p=true) (behindO:∀p,q<p→p<ops.size→B q p→E p=false) {E':Nat→Bool} (hE':∀j,E' j=(j==q||E j))
  (hW:Wd C w0 S γ (dv (M 0) al ft M E ops.size) w) (hF:FR C.D n w S γ (GF (F 0) al V E ops.size) a) {K':Act→World→Prop} {Q:Exit→Act→World→Prop}
  (hK:∀a' w' S' γ',Ext w S γ w' S' γ'→Wd C w0 S' γ' (dv (M 0) al ft M E' ops.size) w'→FR C.D n w' S' γ' (GF (F 0) al V E' ops.size) a'→K' a' w'):wpOp C.P ops Q q K' a w:=by
 obtain⟨o,vc,pr,ho,hco,hev,hvc,hpr,hFq⟩:=hT.at_ q hq;replace hvc:=hvc hbq;replace hpr:=hpr hbq;obtain⟨ow,hkk,hdst,hlt,-⟩:=cJ hco;have before:∀p,p<q→lP (al.getD p default) (al.getD q default)=true→E p=true:=fun p hp hdp=>beforeO p hp (hd p q hp hq hdp)
 have behind:∀p,q<p→p<ops.size→lP (al.getD q default) (al.getD p default)=true→E p=false:=fun p hp hps hdp=>behindO p hp hps (hd q p hp hps hdp)
 have beforeM:∀p,p<q→mT (al.getD p default) (al.getD q default)=true→E p=true∨cv (ft p) (ft q)=true:=fun p hp hdp =>
  (hm p q hp hq hdp).imp (beforeO p hp) id
 have behindM:∀p,q<p→p<ops.size→mT (al.getD q default) (al.getD p default)=true→E p=false∨cv (ft q) (ft p)=true:=fun p hp hps hdp =>
  (hm q p hp hps hdp).imp (behindO p hp hps) id
 have reads:∀t∈eY (al.getD q default),get (GF (F 0) al V E ops.size) t=get (F q) t:=by
  intro t ht;have low:∀k,k≤q→get (GF (F 0) al V E k) t=get (F k) t:=by
   intro k;induction k with
   |zero=>intro _;rfl
   |succ k ih =>
    intro hk;obtain⟨_,_,_,_,_,_,_,_,hFk⟩:=hT.at_ k (by omega);have ih:=ih (by omega);rw[GF,hFk];by_cases hdt:(al.getD k default).dst=some t
    ·have hE:=before k (by omega) (by simp only[lP,oS hdt ht,Bool.true_or]);rw[hE,cond_true,hdt,bC,bC]
    rw[bh hdt];cases E k with
    |true=>rw[cond_true,bh hdt];exact ih
    |false=>exact ih
  have high:∀m,q+m≤ops.size→get (GF (F 0) al V E (q+m)) t=get (GF (F 0) al V E q) t:=by
   intro m;induction m with
   |zero=>intro _;rfl
   |succ m ih =>
    intro hm;have ih:=ih (by omega);show get (GF (F 0) al V E (q+m+1)) t=_;rw[GF];by_cases hdt:(al.getD (q+m) default).dst=some t
    ·have hE:E (q+m)=false:=by
      cases m with
      |zero=>exact hqE
      |succ m=>exact behind (q+(m+1)) (by omega) (by omega) (by simp only[lP,oS hdt ht,Bool.or_true,Bool.true_or])
     rw[hE];exact ih
    cases E (q+m) with
    |true=>rw[cond_true,bh hdt];exact ih
    |false=>exact ih
  have h1:=high (ops.size-q) (by omega);rw[show q+(ops.size-q)=ops.size by omega]at h1;rw[h1];exact low q (Nat.le_refl _)
 have locj:∀k,k<ops.size→Loc (ft k) (M k) (M (k+1)) fun m m'=>∃vc pr,cI (ah C) (aA C) true true (F k) m (al.getD k default) (bF hs k)=some (vc,pr,V k,m')∧(bad k=false→aI vc)∧(bad k=false→aP pr):=fun k hk=>by
  obtain⟨_,vck,prk,_,_,hevk,g1,g2,_⟩:=hT.at_ k hk;rw[hft k hk];exact(mr hevk).imp fun m m' h=>⟨vck,prk,h,g1,g2⟩
 have calmM:∀k,k<ops.size→eZ (al.getD k default).k=false→M (k+1)=M k:=fun k hk he=>by
  obtain⟨_,_,_,_,_,hevk,_⟩:=hT.at_ k hk;exact eW (by simpa [eZ]using he) hevk
 have effNone:∀k,k<ops.size→eZ (al.getD k default).k=true→(∃b l,ft k= .wr b l)∨lz (ft k)=true∨∃nb,ft k= .al nb:=fun k hk he=>by
  rw[hft k hk];exact BO he
 have wrEff:∀k b l,k<ops.size→ft k= .wr b l→eZ (al.getD k default).k=true:=fun k b l hk h=>by
  rw[hft k hk]at h;exact EC h
 have effS:∀k,eZ (al.getD k default).k=true→still (al.getD k default).k=false:=fun k he=>by
  cases hk:(al.getD k default).k<;>rw[hk]at he<;>simp[eZ,calm]at he<;>simp[still,he]
 have alEff:∀k nb,k<ops.size→ft k= .al nb→eZ (al.getD k default).k=true:=fun k nb hk h=>by
  rw[hft k hk]at h;exact ED h
 have alM:∀k nb,k<ops.size→ft k= .al nb→nb=(M k).length∧∃x,M (k+1)=M k++[x]∧(M (k+1))[nb]?=some x:=fun k nb hk h=>by
  obtain⟨h0,x,h1,-⟩:=(by have:=locj k hk;rw[h]at this;exact this:Loc (.al nb) (M k) (M (k+1)) _)
  refine⟨h0,x,h1,?_⟩;rw[h1,h0,List.getElem?_append_right (Nat.le_refl _),Nat.sub_self];rfl
 have rdCalm:∀k l,k<ops.size→ft k= .rd l→eZ (al.getD k default).k=false:=fun k l hk hf=>by
  cases he:eZ (al.getD k default).k with
  |false=>rfl
  |true=>rcases effNone k hk he with⟨b,l,h⟩|h|⟨nb,h⟩<;>rw[hf]at h<;>cases h
 have oh:∀k l m' n',k<ops.size→ft k= .big m' n'→apart m' n' l=true→∀b∈l,(M (k+1))[b]?=(M k)[b]?:=fun k l m' n' hk hf ha b hb=>by
  obtain⟨h0,h1⟩:=(by have:=locj k hk;rw[hf]at this;exact this:Loc (.big m' n') (M k) (M (k+1)) _)
  exact h1 b (oT ha b hb).1 (oT ha b hb).2
 have lenE:∀k,k≤ops.size→(∀j,j<k→eZ (al.getD j default).k=true→(lz (ft j)=true∨∃nb,ft j= .al nb)→E j=true)→(dv (M 0) al ft M E k).length=(M k).length:=by
  intro k;induction k with
  |zero=>intro _ _;rfl
  |succ k ih =>
   intro hk hall;have ih:=ih (by omega) fun j hj=>hall j (by omega)
   rw[dv];cases he:eZ (al.getD k default).k with
   |false=>rw[Bool.and_false,cond_false,ih,calmM k (by omega) he]
   |true =>
    rcases effNone k (by omega) he with⟨c,m,hfk⟩|hfk|⟨nb,hfk⟩
    ·obtain⟨h0,x,h1,h2,-⟩:=(by have:=locj k (by omega);rw[hfk]at this;exact this:Loc (.wr c m) (M k) (M (k+1)) _)
     have hlm:(M (k+1)).length=(M k).length:=by rw[h2,List.length_set]
     cases E k with
     |false=>rw[Bool.false_and,cond_false,ih,hlm]
     |true =>
      simp only[Bool.and_self,cond_true,fj,hfk];split
      ·rw[List.length_set,ih,hlm]
      rw[ih,hlm]
    ·rw[hall k (by omega) he (.inl hfk)];simp only[Bool.and_self,cond_true,jQ hfk]
    rw[hall k (by omega) he (.inr ⟨nb,hfk⟩)];obtain⟨h0,x,h1,h2⟩:=alM k nb (by omega) hfk;simp only[Bool.and_self,cond_true,fj,hfk,h2];rw[List.length_append,ih,h1,List.length_append]
 have lenK:∀k,k<ops.size→E k=true→(∃nb,ft k= .al nb)→(dv (M 0) al ft M E k).length=(M k).length:=fun k hk hE ⟨nb,hfk⟩=>by
  refine lenE k (by omega) fun j hj hej htj=>?_
  obtain⟨ok,_,_,hok,-⟩:=hT.at_ k hk;have hs:=effS k (alEff k nb hk hfk);have hb:B j k:=(hm j k hj hk (qU hej hs)).resolve_right (by
   rw[hfk];rcases htj with h|⟨nb',h⟩
   ·rw[(iq h (.inr (.inr ⟨nb,rfl⟩))).1];simp
   rw[h];simp[cv])
  exact hclB j k hj hk hb hE
 have agree:∀l,(ft q= .rd l∨∃b,ft q= .wr b l)→still (al.getD q default).k=false→qT (M q) (dv (M 0) al ft M E ops.size) l:=by
  intro l hl hns b hb;have low:∀k,k≤q→(dv (M 0) al ft M E k)[b]?=(M k)[b]?:=by
   intro k;induction k with
   |zero=>intro _;rfl
   |succ k ih =>
    intro hk;have ih:=ih (by omega);cases he:eZ (al.getD k default).k with
    |false=>rw[dv,he,Bool.and_false,cond_false,ih,calmM k (by omega) he]
    |true =>
     have hbm:=beforeM k (by omega) (qU he hns);rcases effNone k (by omega) he with⟨c,m,hfk⟩|hfk|hfk
     ·obtain⟨h0,nb,h1,h2,-⟩:=(by have:=locj k (by omega);rw[hfk]at this;exact this:Loc (.wr c m) (M k) (M (k+1)) _)
      have hnb:(M (k+1))[c]?=some nb:=by rw[h2];exact List.getElem?_set_self h1
      cases hE:E k with
      |true =>
       rw[dv,hE,he,hfk];simp only[Bool.and_self,cond_true,fj,hnb];rw[h2];by_cases hcb:c=b
       ·subst hcb;have hlt:c<(dv (M 0) al ft M E k).length:=by
         rw[List.getElem?_eq_getElem h1]at ih;exact(List.getElem?_eq_some_iff.mp ih).1
        rw[List.getElem?_set_self hlt,List.getElem?_set_self h1]
       rw[List.getElem?_set_ne hcb,List.getElem?_set_ne hcb,ih]
      |false =>
       rw[dv,hE,Bool.false_and,cond_false,ih,h2];have hi:=hbm.resolve_left (by rw[hE];simp);have hcb:c≠b:=by
        rcases hl with hl|⟨b',hl⟩<;>rw[hl,hfk]at hi<;>simp only[cv,Bool.and_eq_true]at hi
        ·intro h;subst h;exact cU hi hb
        intro h;subst h;exact cU hi.1 hb
       rw[List.getElem?_set_ne hcb]
     rotate_left
     ·obtain⟨nb,hfk⟩:=hfk;obtain⟨h0,x,h1,h2⟩:=alM k nb (by omega) hfk;cases hE:E k with
      |true =>
       rw[dv,hE,he,hfk];simp only[Bool.and_self,cond_true,fj,h2];rw[h1];have hlen:=lenK k (by omega) hE ⟨nb,hfk⟩;by_cases hbn:b=(M k).length
       ·rw[hbn,List.getElem?_append_right (by omega),List.getElem?_append_right (by omega),hlen]
       rw[lQ (by rw[hlen];exact hbn),lQ hbn,ih]
      |false =>
       rw[dv,hE,Bool.false_and,cond_false,ih,h1];have hi:=hbm.resolve_left (by rw[hE];simp);have hbn:b≠(M k).length:=by
        rcases hl with hl|⟨b',hl⟩<;>rw[hl,hfk]at hi<;>simp only[cv]at hi
        ·intro h;exact cU hi (by rw[h0,←h];exact hb)
        intro h;exact cU hi (by rw[h0,←h];exact hb)
       rw[lQ hbn]
     cases hE:E k with
     |true =>
      rw[dv,hE,he];simp only[Bool.and_self,cond_true,jQ hfk]
     |false =>
      have hi:=hbm.resolve_left (by rw[hE];simp);rw[dv,hE,Bool.false_and,cond_false,ih];rcases hl with hl|⟨b',hl⟩
      ·rw[hl]at hi;rcases nS hfk with hb2|⟨m',n',hb2⟩<;>rw[hb2]at hi
       ·cases hi
       exact(oh k l _ _ (by omega) hb2 hi b hb).symm
      rw[hl,(iq hfk (.inl ⟨b',l,rfl⟩)).1]at hi;cases hi
  have high:∀m,q+m≤ops.size→(dv (M 0) al ft M E (q+m))[b]?=(dv (M 0) al ft M E q)[b]?:=by
   intro m;induction m with
   |zero=>intro _;rfl
   |succ m ih =>
    intro hm';have ih:=ih (by omega);show(dv (M 0) al ft M E (q+m+1))[b]?=_;rw[dv];cases hE:E (q+m) with
    |false=>exact ih
    |true =>
     cases he:eZ (al.getD (q+m) default).k with
     |false=>exact ih
     |true =>
      have hne:m≠0:=by intro h;subst h;rw[Nat.add_zero,hqE]at hE;cases hE
      have hi:=(behindM (q+m) (by omega) (by omega) (qV hns he)).resolve_left (by rw[hE];simp);rcases effNone (q+m) (by omega) he with⟨c,l',hfk⟩|hfk|⟨nb,hfk⟩
      rotate_left 2
      ·obtain⟨h0,x,h1,h2⟩:=alM (q+m) nb (by omega) hfk;simp only[Bool.and_self,cond_true,fj,hfk,h2];have hlen:=lenK (q+m) (by omega) hE ⟨nb,hfk⟩;have hbn:b≠(M (q+m)).length:=by
        rcases hl with hl|⟨b',hl⟩<;>rw[hl,hfk]at hi<;>simp only[cv]at hi
        ·intro h;exact cU hi (by rw[h0,←h];exact hb)
        intro h;exact cU hi (by rw[h0,←h];exact hb)
       rw[lQ (by rw[hlen];exact hbn)];exact ih
      ·simp only[Bool.and_self,cond_true,fj,hfk];have hcb:c≠b:=by
        rcases hl with hl|⟨b',hl⟩<;>rw[hl,hfk]at hi<;>simp only[cv,Bool.and_eq_true]at hi
        ·intro h;subst h;exact cU hi hb
        intro h;subst h;exact cU hi.2 hb
       split
       ·rw[List.getElem?_set_ne hcb];exact ih
       exact ih
      simp only[Bool.and_self,cond_true,jQ hfk];rcases hl with hl|⟨b',hl⟩
      rotate_left
      ·rw[hl,(iq hfk (.inl ⟨b',l,rfl⟩)).2]at hi;cases hi
      rw[hl]at hi;rcases nS hfk with hb2|⟨m',n',hb2⟩<;>rw[hb2]at hi
      ·cases hi
      rw[oh (q+m) l _ _ (by omega) hb2 hi b hb,low q (Nat.le_refl _)];have eR:∀i,i≤m→(M (q+i))[b]?=(M q)[b]?:=by
       intro i;induction i with
       |zero=>intro _;rfl
       |succ i ihi =>
        intro him;have ihi:=ihi (by omega);show(M (q+i+1))[b]?=_;cases hei:eZ (al.getD (q+i) default).k with
        |false=>rw[calmM (q+i) (by omega) hei];exact ihi
        |true =>
         have hi0:i≠0:=by
          intro h;subst h;rw[Nat.add_zero,rdCalm q l hq hl]at hei;cases hei
         have hbig:lz (ft (q+m))=true:=by rw[hb2];rfl
         have hBij:B (q+i) (q+m):=(hm (q+i) (q+m) (by omega) (by omega) (qU hei (effS _ he))).resolve_right (by
          rw[(iq hbig (effNone (q+i) (by omega) hei)).2];simp)
         have hEi:=hclB (q+i) (q+m) (by omega) (by omega) hBij hE;have hii:=(behindM (q+i) (by omega) (by omega) (qV hns hei)).resolve_left (by rw[hEi];simp);rw[hl]at hii;rcases effNone (q+i) (by omega) hei with⟨c,l',hfi⟩|hfi|⟨nb,hfi⟩
         ·obtain⟨h0,nb,h1,h2,-⟩:=(by have:=locj (q+i) (by omega);rw[hfi]at this;exact this:Loc (.wr c l') (M (q+i)) (M (q+i+1)) _)
          rw[hfi]at hii;simp only[cv]at hii;rw[h2,List.getElem?_set_ne (by intro h;subst h;exact cU hii hb)];exact ihi
         ·rcases nS hfi with hb3|⟨m',n',hb3⟩<;>rw[hb3]at hii
          ·cases hii
          rw[oh (q+i) l _ _ (by omega) hb3 hii b hb];exact ihi
         obtain⟨h0,x,h1,h2⟩:=alM (q+i) nb (by omega) hfi;rw[hfi]at hii;simp only[cv]at hii;rw[h1,lQ (by intro h;exact cU hii (by rw[h0,←h];exact hb))];exact ihi
      exact eR m (Nat.le_refl _)
  have h1:=high (ops.size-q) (by omega);rw[show q+(ops.size-q)=ops.size by omega]at h1;exact h1.trans (low q (Nat.le_refl _))
 have exact_:lz (ft q)=true→still (al.getD q default).k=false→dv (M 0) al ft M E ops.size=M q∧∀m,q+m≤ops.size→eZ (al.getD (q+m) default).k=true→m≠0→E (q+m)=false:=by
  intro htop hns;have gone:∀m,q+m≤ops.size→q+m<ops.size→eZ (al.getD (q+m) default).k=true→m≠0→E (q+m)=false:=fun m _ hlt he hne=>by
   refine(behindM (q+m) (by omega) hlt (qV hns he)).resolve_right ?_;rw[(iq htop (effNone (q+m) hlt he)).1];simp
  have low:∀k,k≤q→dv (M 0) al ft M E k=M k:=by
   intro k;induction k with
   |zero=>intro _;rfl
   |succ k ih =>
    intro hk;have ih:=ih (by omega);cases he:eZ (al.getD k default).k with
    |false=>rw[dv,he,Bool.and_false,cond_false,ih,calmM k (by omega) he]
    |true =>
     have hE:E k=true:=(beforeM k (by omega) (qU he hns)).resolve_right (by
      rw[(iq htop (effNone k (by omega) he)).2];simp)
     rw[dv,hE,he];simp only[Bool.and_self,cond_true];rcases effNone k (by omega) he with⟨c,m,hfk⟩|hfk|⟨nb,hfk⟩
     ·obtain⟨h0,nb,h1,h2,-⟩:=(by have:=locj k (by omega);rw[hfk]at this;exact this:Loc (.wr c m) (M k) (M (k+1)) _)
      have hnb:(M (k+1))[c]?=some nb:=by rw[h2];exact List.getElem?_set_self h1
      simp only[fj,hfk,hnb];rw[ih,h2]
     ·exact jQ hfk _ _
     obtain⟨h0,x,h1,h2⟩:=alM k nb (by omega) hfk;simp only[fj,hfk,h2];rw[ih,h1]
  have high:∀m,q+m≤ops.size→dv (M 0) al ft M E (q+m)=dv (M 0) al ft M E q:=by
   intro m;induction m with
   |zero=>intro _;rfl
   |succ m ih =>
    intro hm';have ih:=ih (by omega);show dv (M 0) al ft M E (q+m+1)=_;rw[dv];cases he:eZ (al.getD (q+m) default).k with
    |false=>rw[Bool.and_false];exact ih
    |true =>
     have hE:E (q+m)=false:=by
      by_cases hm0:m=0
      ·subst hm0;exact hqE
      exact gone m (by omega) (by omega) he hm0
     rw[hE];exact ih
  have h1:=high (ops.size-q) (by omega);rw[show q+(ops.size-q)=ops.size by omega]at h1;refine⟨h1.trans (low q (Nat.le_refl _)),fun m hm' he hne=>?_⟩;by_cases hlt:q+m<ops.size
  ·exact gone m hm' hlt he hne
  have:(al.getD (q+m) default)=default:=by
   rw[List.getD,List.getElem?_eq_none (by have:=hT.len;omega)];rfl
  rw[this]at he;cases he
 have frameNe:∀t,(al.getD q default).dst≠some t→get (GF (F 0) al V E' ops.size) t=get (GF (F 0) al V E ops.size) t:=by
  intro t ht;have:∀k,get (GF (F 0) al V E' k) t=get (GF (F 0) al V E k) t:=by
   intro k;induction k with
   |zero=>rfl
   |succ k ih =>
    rw[GF,GF,hE'];by_cases hkq:k=q
    ·subst hkq;rw[hqE];simp only[beq_self_eq_true,Bool.true_or,cond_true,cond_false];rw[bh ht];exact ih
    rw[show(k==q)=false by simpa using hkq,Bool.false_or];cases E k with
    |true =>
     simp only[cond_true];by_cases hdt:(al.getD k default).dst=some t
     ·rw[hdt,bC,bC]
     rw[bh hdt,bh hdt];exact ih
    |false=>exact ih
  exact this _
 have frameEq:∀t,(al.getD q default).dst=some t→get (GF (F 0) al V E' ops.size) t=V q:=by
  intro t ht;have:∀m,q+1+m≤ops.size→get (GF (F 0) al V E' (q+1+m)) t=V q:=by
   intro m;induction m with
   |zero =>
    intro _;rw[Nat.add_zero,GF,hE'];simp only[beq_self_eq_true,Bool.true_or,cond_true];rw[ht,bC]
   |succ m ih =>
    intro hm;have ih:=ih (by omega);show get (GF (F 0) al V E' (q+1+m+1)) t=_;rw[GF,hE'];rw[show(q+1+m==q)=false by simp;omega,Bool.false_or];by_cases hdt:(al.getD (q+1+m) default).dst=some t
    ·have hE:=behind (q+1+m) (by omega) (by omega) (by simp only[lP,mS ht hdt,Bool.or_true,Bool.true_or]);rw[hE];exact ih
    cases E (q+1+m) with
    |true=>rw[cond_true,bh hdt];exact ih
    |false=>exact ih
  have h1:=this (ops.size-(q+1)) (by omega);rwa [show q+1+(ops.size-(q+1))=ops.size by omega]at h1
 have memCalm:eZ (al.getD q default).k=false→dv (M 0) al ft M E' ops.size=dv (M 0) al ft M E ops.size:=fun he=>by
  have:∀k,dv (M 0) al ft M E' k=dv (M 0) al ft M E k:=by
   intro k;induction k with
   |zero=>rfl
   |succ k ih =>
    rw[dv,dv,hE'];by_cases hkq:k=q
    ·subst hkq;rw[he,Bool.and_false,Bool.and_false];exact ih
    rw[show(k==q)=false by simpa using hkq,Bool.false_or,ih]
  exact this _
 have lowE:∀k,k≤q→dv (M 0) al ft M E' k=dv (M 0) al ft M E k:=by
  intro k;induction k with
  |zero=>intro _;rfl
  |succ k ih =>
   intro hk;rw[dv,dv,hE',show(k==q)=false by simp;omega,Bool.false_or,ih (by omega)]
 have memWr:∀b l nb,ft q= .wr b l→l=[b]→(M (q+1))[b]?=some nb→dv (M 0) al ft M E' ops.size=(dv (M 0) al ft M E ops.size).set b nb:=by
  intro b l nb hf hlb hnb;have he:=wrEff q b l hq hf;have hns:=effS q he;have:∀m,q+1+m≤ops.size→dv (M 0) al ft M E' (q+1+m)=(dv (M 0) al ft M E (q+1+m)).set b nb:=by
   intro m;induction m with
   |zero =>
    intro _;rw[Nat.add_zero,dv,dv,hE',he,hqE,hf];simp only[beq_self_eq_true,Bool.true_or,Bool.true_and,Bool.false_and,cond_true,cond_false,fj,hnb];rw[lowE q (Nat.le_refl _)]
   |succ m ih =>
    intro hm';have ih:=ih (by omega);show dv (M 0) al ft M E' (q+1+m+1)=(dv (M 0) al ft M E (q+1+m+1)).set b nb;rw[dv,dv,hE',show(q+1+m==q)=false by simp;omega,Bool.false_or];cases hE:E (q+1+m) with
    |false=>exact ih
    |true =>
     cases he2:eZ (al.getD (q+1+m) default).k with
     |false=>exact ih
     |true =>
      have hi:=(behindM (q+1+m) (by omega) (by omega) (qV hns he2)).resolve_left (by rw[hE];simp);rcases effNone (q+1+m) (by omega) he2 with⟨c,l',hfk⟩|hfk|⟨na,hfk⟩
      rotate_left 2
      ·obtain⟨h0,x,h1,h2⟩:=alM (q+1+m) na (by omega) hfk;simp only[Bool.and_self,cond_true,fj,hfk,h2];have hlen:=lenK (q+1+m) (by omega) hE ⟨na,hfk⟩;rw[hf,hfk]at hi;simp only[cv]at hi;have hbn:b≠(dv (M 0) al ft M E (q+1+m)).length:=by
        rw[hlen];intro h;exact cU hi (by rw[h0,←h,hlb];simp)
       rw[ih,set_push hbn]
      ·simp only[Bool.and_self,cond_true,fj,hfk];rw[hf,hfk]at hi;simp only[cv,Bool.and_eq_true]at hi;have hcb:b≠c:=by
        intro h;subst h;exact cU hi.2 (by rw[hlb];simp)
       split
       ·rw[ih,List.set_comm _ _ hcb]
       exact ih
      rw[hf,(iq hfk (.inl ⟨b,l,rfl⟩)).2]at hi;cases hi
  have h1:=this (ops.size-(q+1)) (by omega);rwa [show q+1+(ops.size-(q+1))=ops.size by omega]at h1
 have memAl:∀nb x,ft q= .al nb→(M (q+1))[nb]?=some x→(dv (M 0) al ft M E ops.size).length=(M q).length∧dv (M 0) al ft M E' ops.size=dv (M 0) al ft M E ops.size++[x]:=by
  intro nb x hf hx;have he:=alEff q nb hq hf;have hns:=effS q he;obtain⟨h0,_,_,_⟩:=alM q nb hq hf;have hlq:(dv (M 0) al ft M E q).length=(M q).length:=lenE q (by omega) fun j hj hej htj=>(beforeM j hj (qU hej hns)).resolve_right (by
   rw[hf];rcases htj with h|⟨nb',h⟩
   ·rw[(iq h (.inr (.inr ⟨nb,rfl⟩))).1];simp
   rw[h];simp[cv])
  have:∀m,q+1+m≤ops.size→(dv (M 0) al ft M E (q+1+m)).length=(M q).length∧dv (M 0) al ft M E' (q+1+m)=dv (M 0) al ft M E (q+1+m)++[x]:=by
   intro m;induction m with
   |zero =>
    intro _;rw[Nat.add_zero,dv,dv,hE',he,hqE,hf];simp only[beq_self_eq_true,Bool.true_or,Bool.true_and,Bool.false_and,cond_true,cond_false,fj,hx];rw[lowE q (Nat.le_refl _)];exact⟨hlq,rfl⟩
   |succ m ih =>
    intro hm';obtain⟨ih1,ih2⟩:=ih (by omega);show(dv (M 0) al ft M E (q+1+m+1)).length=(M q).length∧dv (M 0) al ft M E' (q+1+m+1)=dv (M 0) al ft M E (q+1+m+1)++[x]
    rw[dv,dv,hE',show(q+1+m==q)=false by simp;omega,Bool.false_or];cases hE:E (q+1+m) with
    |false=>exact⟨ih1,ih2⟩
    |true =>
     cases he2:eZ (al.getD (q+1+m) default).k with
     |false=>exact⟨ih1,ih2⟩
     |true =>
      have hi:=(behindM (q+1+m) (by omega) (by omega) (qV hns he2)).resolve_left (by rw[hE];simp);rcases effNone (q+1+m) (by omega) he2 with⟨c,l',hfk⟩|hfk|⟨na,hfk⟩
      ·obtain⟨hlc,-⟩:=(by have:=locj (q+1+m) (by omega);rw[hfk]at this;exact this:Loc (.wr c l') (M (q+1+m)) (M (q+1+m+1)) _)
       simp only[Bool.and_self,cond_true,fj,hfk];rw[hf,hfk]at hi;simp only[cv]at hi;have hcn:c≠(dv (M 0) al ft M E (q+1+m)).length:=by
        rw[ih1,←h0];intro h;exact cU hi (by rw[hlc,h];simp)
       split
       ·rw[List.length_set,ih2,set_push hcn];exact⟨ih1,rfl⟩
       exact⟨ih1,ih2⟩
      ·rw[hf,(iq hfk (.inr (.inr ⟨nb,rfl⟩))).2]at hi;cases hi
      rw[hf,hfk]at hi;simp[cv]at hi
  have h1:=this (ops.size-(q+1)) (by omega);rwa [show q+1+(ops.size-(q+1))=ops.size by omega]at h1
 have memTop:lz (ft q)=true→eZ (al.getD q default).k=true→dv (M 0) al ft M E' ops.size=M (q+1):=by
  intro htop he;have hx:=(exact_ htop (effS q he)).2;have:∀m,q+1+m≤ops.size→dv (M 0) al ft M E' (q+1+m)=M (q+1):=by
   intro m;induction m with
   |zero =>
    intro _;rw[Nat.add_zero,dv,hE',he];simp only[beq_self_eq_true,Bool.true_or,Bool.true_and,cond_true,jQ htop]
   |succ m ih =>
    intro hm';have ih:=ih (by omega);show dv (M 0) al ft M E' (q+1+m+1)=_;rw[dv,hE',show(q+1+m==q)=false by simp;omega,Bool.false_or];cases he2:eZ (al.getD (q+1+m) default).k with
    |true =>
     have:=hx (1+m) (by omega) (by rw[←Nat.add_assoc];exact he2) (by omega);rw[←Nat.add_assoc]at this;rw[this];exact ih
    |false=>rw[Bool.and_false];exact ih
  have h1:=this (ops.size-(q+1)) (by omega);rwa [show q+1+(ops.size-(q+1))=ops.size by omega]at h1
 have hvals:∀t∈eY (al.getD q default),VR w S γ (get (F q) t) (a.eval (.tmp t)):=fun t ht=>by
  rw[←reads t ht];exact hF.val t
 have fin:∀u w' S' γ',Ext w S γ w' S' γ'→Wd C w0 S' γ' (dv (M 0) al ft M E' ops.size) w'→VR w' S' γ' (V q) u→K' (a.put o.dst u) w':=by
  intro u w' S' γ' hE hW' hv;refine hK _ w' S' γ' hE hW' ?_;have hFx:=hF.ext hE;have h1:FR C.D n w' S' γ' (Pur.put (GF (F 0) al V E ops.size) o.dst (V q)) (a.put o.dst u):=hFx.put hv hlt;refine⟨h1.size,h1.defers,fun t=>?_⟩;have h2:=h1.val t;by_cases hdt:(al.getD q default).dst=some t
  ·rw[frameEq t hdt];rw[←hdst,hdt,bC]at h2;rw[←hdst,hdt];exact h2
  rw[frameNe t hdt];rw[←hdst]at h2;rw[bh hdt]at h2;rw[←hdst];exact h2
 cases hst:still (al.getD q default).k with
 |true =>
  have hcalm:eZ (al.getD q default).k=false:=by
   cases hk:(al.getD q default).k<;>rw[hk]at hst<;>simp[still]at hst<;>simp[eZ,calm,hst]
  have hev2:=jD hst hev (dv (M 0) al ft M E ops.size);refine dd ho (bL hW hco hev2 hvc hpr hvals fun u w' S' γ' hE hW' hv=>fin u w' S' γ' hE ?_ hv);rw[memCalm hcalm];exact hW'
 |false =>
  have hl:=locj q hq;cases hf:ft q with
  |none =>
   rw[hf]at hl;obtain⟨vc2,pr2,hev2,g1,g2⟩:=hl.2 (dv (M 0) al ft M E ops.size);have hcalm:eZ (al.getD q default).k=false:=by
    cases he:eZ (al.getD q default).k with
    |false=>rfl
    |true=>rcases effNone q hq he with⟨b,l,h⟩|h|⟨nb,h⟩<;>rw[hf]at h<;>cases h
   refine dd ho (bL hW hco hev2 (g1 hbq) (g2 hbq) hvals fun u w' S' γ' hE hW' hv=>fin u w' S' γ' hE ?_ hv);rw[memCalm hcalm];exact hW'
  |rd l =>
   rw[hf]at hl;obtain⟨vc2,pr2,hev2,g1,g2⟩:=hl.2 (dv (M 0) al ft M E ops.size) (agree l (.inl hf) hst);have hcalm:eZ (al.getD q default).k=false:=by
    cases he:eZ (al.getD q default).k with
    |false=>rfl
    |true=>rcases effNone q hq he with⟨b,l,h⟩|h|⟨nb,h⟩<;>rw[hf]at h<;>cases h
   refine dd ho (bL hW hco hev2 (g1 hbq) (g2 hbq) hvals fun u w' S' γ' hE hW' hv=>fin u w' S' γ' hE ?_ hv);rw[memCalm hcalm];exact hW'
  |wr b l =>
   rw[hf]at hl;obtain⟨hlb,nb,h1,h2,h3⟩:=hl;obtain⟨vc2,pr2,hev2,g1,g2⟩:=h3 (dv (M 0) al ft M E ops.size) (agree l (.inr ⟨b,hf⟩) hst);refine dd ho (bL hW hco hev2 (g1 hbq) (g2 hbq) hvals fun u w' S' γ' hE hW' hv=>fin u w' S' γ' hE ?_ hv);rw[memWr b l nb hf hlb (by rw[h2];exact List.getElem?_set_self h1)];exact hW'
  |al nb =>
   rw[hf]at hl;obtain⟨h0,x,h1,h2⟩:=hl;obtain⟨-,x',h3,h4⟩:=alM q nb hq hf;have hxx:x'=x:=by
    rw[h1]at h3;have:=List.append_cancel_left h3;simpa using this.symm
   subst hxx;obtain⟨g5,g6⟩:=memAl nb x' hf h4;obtain⟨vc2,pr2,hev2,g1,g2⟩:=h2 (dv (M 0) al ft M E ops.size) g5;refine dd ho (bL hW hco hev2 (g1 hbq) (g2 hbq) hvals fun u w' S' γ' hE hW' hv=>fin u w' S' γ' hE ?_ hv);rw[g6];exact hW'
  |big _ _ =>
   have hf:lz (ft q)=true:=by rw[hf];rfl
   have hx:=(exact_ hf hst).1;rw[hx]at hW;refine dd ho (bL hW hco hev hvc hpr hvals fun u w' S' γ' hE hW' hv=>fin u w' S' γ' hE ?_ hv);cases he:eZ (al.getD q default).k with
   |true=>rw[memTop hf he];exact hW'
   |false=>rw[memCalm he,hx,←calmM q hq he];exact hW'
  |top =>
   have hf:lz (ft q)=true:=by rw[hf];rfl
   have hx:=(exact_ hf hst).1;rw[hx]at hW;refine dd ho (bL hW hco hev hvc hpr hvals fun u w' S' γ' hE hW' hv=>fin u w' S' γ' hE ?_ hv);cases he:eZ (al.getD q default).k with
   |true=>rw[memTop hf he];exact hW'
   |false=>rw[memCalm he,hx,←calmM q hq he];exact hW'
theorem Ao {n:Nat} {own:Nat→Bool} {al:List bx} {hs:List (Nat×Hint)} {F:Nat→AF} {M:Nat→AM} {V:Nat→AV} {ft:Nat→dt} {bad:Nat→Bool} (hT:nT C n own ops al hs F M V bad)
  (hft:∀k,k<ops.size→ft k=aV (M k) (aN (F k) (tmpsOf (al.getD k default).k)) (bF hs k) (al.getD k default).k)
  (hd:∀p q,p<q→q<ops.size→lP (al.getD p default) (al.getD q default)=true→((dR ops.toList []).getD q 0).testBit p=true)
  (hm:∀p q,p<q→q<ops.size→mT (al.getD p default) (al.getD q default)=true→((dR ops.toList []).getD q 0).testBit p=true∨cv (ft p) (ft q)=true)
  {E:Nat→Bool} (hcl:∀(j:Nat) o,ops[j]?=some o→E j=true→∀e∈o.after.toList,Region.binds .any e=true→E e.on=true) {q:Nat} (hq:q<ops.size) (hqE:E q=false) (hbq:bad q=false)
  (hr:∀o,ops[q]?=some o→∀e∈o.after.toList,Region.binds .any e=true→E e.on=true) {E':Nat→Bool} (hE':∀j,E' j=(j==q||E j))
  (hW:Wd C w0 S γ (dv (M 0) al ft M E ops.size) w) (hF:FR C.D n w S γ (GF (F 0) al V E ops.size) a) {K':Act→World→Prop} {Q:Exit→Act→World→Prop}
  (hK:∀a' w' S' γ',Ext w S γ w' S' γ'→Wd C w0 S' γ' (dv (M 0) al ft M E' ops.size) w'→FR C.D n w' S' γ' (GF (F 0) al V E' ops.size) a'→K' a' w'):wpOp C.P ops Q q K' a w:=by
 obtain⟨o,vc,pr,ho,-⟩:=hT.at_ q hq;have beforeO:∀p,p<q→((dR ops.toList []).getD q 0).testBit p=true→E p=true:=fun p hp hb =>
  ahead (E:=fun j=>E j=true) (fun j o h1 h2 e h3 h4=>hcl j o (by rw[Array.getElem?_toList]at h1;exact h1) h2 e h3 h4) q o (by rw[Array.getElem?_toList];exact ho) (hr o ho) p hb
 have behindO:∀p,q<p→p<ops.size→((dR ops.toList []).getD p 0).testBit q=true→E p=false:=fun p hp hps hb=>by
  cases hEp:E p with
  |false=>rfl
  |true =>
   obtain⟨op,_,_,hop,-⟩:=hT.at_ p hps;have:=ahead (E:=fun j=>E j=true) (fun j o h1 h2 e h3 h4=>hcl j o (by rw[Array.getElem?_toList]at h1;exact h1) h2 e h3 h4) p op (by rw[Array.getElem?_toList];exact hop) (hcl p op hop hEp) q hb;simp only[hqE]at this;cases this
 exact oU hT hft (B:=fun p q=>((dR ops.toList []).getD q 0).testBit p=true) hd hm (fun j k hj hk hb hE=>by
  obtain⟨ok,_,_,hok,-⟩:=hT.at_ k hk;exact ahead (E:=fun j=>E j=true) (fun j o h1 h2 e h3 h4=>hcl j o (by rw[Array.getElem?_toList]at h1;exact h1) h2 e h3 h4) k ok (by rw[Array.getElem?_toList];exact hok) (hcl k ok hok hE) j hb) hq hqE hbq beforeO behindO hE' hW hF hK
theorem xO {n m:Nat} {own:Nat→Bool} {al:List bx} {hs:List (Nat×Hint)} {F:Nat→AF} {M:Nat→AM} {V:Nat→AV} {R:Exit→AF→AM→Prop} {ft:Nat→dt} (hT:ku C n own ops al true hs F M V)
  (hft:∀k,k<ops.size→ft k=aV (M k) (aN (F k) (tmpsOf (al.getD k default).k)) (bF hs k) (al.getD k default).k)
  (hedge:gE ops.toList 0=true) (hd:∀p q,p<q→q<ops.size→lP (al.getD p default) (al.getD q default)=true→((dR ops.toList []).getD q 0).testBit p=true)
  (hm:∀p q,p<q→q<ops.size→mT (al.getD p default) (al.getD q default)=true→((dR ops.toList []).getD q 0).testBit p=true∨cv (ft p) (ft q)=true) (hR:R .normal (F ops.size) (M ops.size)) :
  ∀(fuel:Nat) (listed:Array Bool) (S1:Nat→Prop) (γ1:Gh) (w1:World) (a1:Act),listed.size=ops.size→(List.range ops.size).countP (fun i=>!listed.getD i true)≤fuel →
   (∀(j:Nat) o,ops[j]?=some o→listed.getD j true=true→∀e∈o.after.toList,Region.binds .any e=true→listed.getD e.on true=true) →
   Ext w S γ w1 S1 γ1→Wd C w0 S1 γ1 (dv (M 0) al ft M (fun j=>listed.getD j true) ops.size) w1→FR C.D n w1 S1 γ1 (GF (F 0) al V (fun j=>listed.getD j true) ops.size) a1 →
   wpAny C.P .any ops (Ends C n m w0 w S γ R) fuel listed a1 w1:=by
 have edge:∀(j:Nat) o,ops[j]?=some o→∀e∈o.after.toList,Region.binds .any e=true→e.on<j:=fun j o ho e he hb=>by
  have:=gu ops.toList hedge (by rw[Array.getElem?_toList];exact ho) e he hb;omega
 have stop:∀(listed:Array Bool) (S1:Nat→Prop) (γ1:Gh) (w1:World) (a1:Act),listed.size=ops.size→Region.ready .any ops listed=[] →
   Ext w S γ w1 S1 γ1→Wd C w0 S1 γ1 (dv (M 0) al ft M (fun j=>listed.getD j true) ops.size) w1→FR C.D n w1 S1 γ1 (GF (F 0) al V (fun j=>listed.getD j true) ops.size) a1→Ends C n m w0 w S γ R .normal a1 w1:=by
  intro listed S1 γ1 w1 a1 hsz hnil hE hW hF;have all:∀j,j<ops.size→listed.getD j true=true:=by
   intro j;induction j using Nat.strongRecOn with
   |_ j ih =>
    intro hj;cases hl:listed.getD j true with
    |true=>rfl
    |false =>
     have ho:ops[j]?=some ops[j]:=by simp[hj]
     have:j∈Region.ready .any ops listed:=cN.mpr ⟨hj,hl,_,ho,fun e he hb=>by
      have h1:=edge j _ ho e he hb;have h2:=ih e.on h1 (by omega);have hlt:e.on<listed.size:=by omega
      simpa [Array.getD,hlt]using h2⟩
     rw[hnil]at this;cases this
  have hGF:∀k,k≤ops.size→GF (F 0) al V (fun j=>listed.getD j true) k=F k:=by
   intro k;induction k with
   |zero=>intro _;rfl
   |succ k ih =>
    intro hk;obtain⟨_,_,_,_,_,_,_,_,hFk⟩:=hT.at_ k (by omega);rw[GF,all k (by omega),cond_true,ih (by omega),hFk]
  have hGM:∀k,k≤ops.size→dv (M 0) al ft M (fun j=>listed.getD j true) k=M k:=by
   intro k;induction k with
   |zero=>intro _;rfl
   |succ k ih =>
    intro hk;rw[dv,all k (by omega),Bool.true_and];obtain⟨_,_,_,_,_,hevk,_⟩:=hT.at_ k (by omega);cases he:eZ (al.getD k default).k with
    |true =>
     rw[cond_true,ih (by omega)];have hl:=mr hevk;rw[←hft k (by omega)]at hl;cases hf:ft k with
     |wr b l =>
      rw[hf]at hl;obtain⟨-,nb,h1,h2,-⟩:=hl;simp only[fj];rw[show(M (k+1))[b]?=some nb by rw[h2];exact List.getElem?_set_self h1];simp only;rw[h2]
     |al nb =>
      rw[hf]at hl;obtain⟨h0,x,h1,-⟩:=hl;simp only[fj];rw[show(M (k+1))[nb]?=some x by rw[h1,h0,List.getElem?_append_right (Nat.le_refl _),Nat.sub_self];rfl];simp only;rw[h1]
     |top=>rfl
     |big m n=>rfl
     |none=>rfl
     |rd l=>rfl
    |false =>
     rw[cond_false,ih (by omega)];exact(eW (by simpa [eZ]using he) hevk).symm
  rw[hGM _ (Nat.le_refl _)]at hW;rw[hGF _ (Nat.le_refl _)]at hF;exact⟨S1,γ1,_,_,hE.ue m,hW,hF,hR⟩
 intro fuel;induction fuel with
 |zero =>
  intro listed S1 γ1 w1 a1 hsz hcnt hcl hE hW hF;have hnil:Region.ready .any ops listed=[]:=by
   cases hr:Region.ready .any ops listed with
   |nil=>rfl
   |cons i r =>
    have hi:i∈Region.ready .any ops listed:=by rw[hr];exact List.mem_cons_self
    obtain⟨h1,h2,-⟩:=cN.mp hi;have:0<(List.range ops.size).countP (fun i=>!listed.getD i true):=List.countP_pos_iff.mpr ⟨i,List.mem_range.mpr h1,by simp[h2]⟩;omega
  exact⟨hnil,stop listed S1 γ1 w1 a1 hsz hnil hE hW hF⟩
 |succ fuel ih =>
  intro listed S1 γ1 w1 a1 hsz hcnt hcl hE hW hF;refine⟨fun hnil=>stop listed S1 γ1 w1 a1 hsz hnil hE hW hF,fun q hq=>?_⟩;obtain⟨h1,h2,o,ho,h3⟩:=cN.mp hq;have hset:∀j,(listed.setIfInBounds q true).getD j true=(j==q||listed.getD j true):=fun j=>by
   by_cases hjq:j=q
   ·subst hjq;simp[Array.getD,hsz,h1]
   rw[show(j==q)=false by simpa using hjq,Bool.false_or];simp only[Array.getD_eq_getD_getElem?];rw[Array.getElem?_setIfInBounds_ne (Ne.symm hjq)]
  have hqE:∀e:Nat,e<ops.size→listed.getD e false=true→listed.getD e true=true:=fun e he h=>by
   have hlt:e<listed.size:=by omega
   simpa [Array.getD,hlt]using h
  have hrq:∀o,ops[q]?=some o→∀e∈o.after.toList,Region.binds .any e=true→listed.getD e.on true=true:=fun o' ho' e he hb=>by
   rw[ho]at ho';injection ho' with ho';subst ho'
   have:=edge q o ho e he hb;exact hqE e.on (by omega) (h3 e he hb)
  refine Ao hT.b hft hd hm (E:=fun j=>listed.getD j true) hcl h1 h2 rfl hrq (E':=fun j=>(listed.setIfInBounds q true).getD j true) hset hW hF fun a' w' S' γ' hE' hW' hF'=>?_
  refine ih (listed.setIfInBounds q true) S' γ' w' a' (by simp[hsz]) ?_ ?_ (hE.trans hE') hW' hF'
  ·have:=fy (p:=fun i=>!listed.getD i true) (q:=fun i=>!(listed.setIfInBounds q true).getD i true) (List.range ops.size) (List.mem_range.mpr h1) (by simp[h2]) (by rw[hset];simp) (fun j hj=>by
    rw[hset]at hj;simp only[Bool.not_or,Bool.and_eq_true]at hj;exact hj.2)
   omega
  intro j oj hoj hj e he hb;rw[hset]at hj ⊢;simp only[Bool.or_eq_true,beq_iff_eq]at hj ⊢;rcases hj with hj|hj
  ·subst hj;exact .inr (hrq oj hoj e he hb)
  exact .inr (hcl j oj hoj hj e he hb)
theorem ir {X:FuncId→List PV→PV→Prop} {Y:FuncId→List AV→AM→AV→AM→Prop} {hs:List (Nat×Hint)}:∀(al:List bx) (i:Nat) (vc0:VC) (pr0:List Prop) (fs0:List dt) (f:AF) (μ:AM) {vc pr fs f' μ'},
  cA X Y al hs i vc0 pr0 fs0 f μ=some (vc,pr,fs,f',μ')→cV X Y true true al hs i vc0 pr0 f μ=some (vc,pr,f',μ') ∧
   ∀(F:Nat→AF) (M:Nat→AM) (V:Nat→AV),F i=f→M i=μ→(∀(j:Nat) ao,al[j]?=some ao→∃vcj prj,cI X Y true true (F (i+j)) (M (i+j)) ao (bF hs (i+j))=some (vcj,prj,V (i+j),M (i+j+1))∧F (i+j+1)=put (F (i+j)) ao.dst (V (i+j))) →
    fs=fs0++(List.range al.length).map fun j=>aV (M (i+j)) (aN (F (i+j)) (tmpsOf (al.getD j default).k)) (bF hs (i+j)) (al.getD j default).k
 |[],i,vc0,pr0,fs0,f,μ,vc,pr,fs,f',μ',h=>by
  simp only[cA,Option.some.injEq,Prod.mk.injEq]at h;obtain⟨rfl,rfl,rfl,rfl,rfl⟩:=h;exact⟨rfl,fun F M V _ _ _=>by simp⟩
 |o::r,i,vc0,pr0,fs0,f,μ,vc,pr,fs,f',μ',h=>by
  simp only[cA]at h;cases he:ff X Y true true f μ o (bF hs i) with
  |none=>rw[he]at h;cases h
  |some q =>
   obtain⟨vc1,pr1,f1,μ1⟩:=q;rw[he]at h;simp only at h;obtain⟨g1,g2⟩:=ir r (i+1) _ _ _ f1 μ1 h;refine⟨by simp only[cV,he];exact g1,fun F M V hF hM hj=>?_⟩;obtain⟨vcj,prj,k1,k2⟩:=hj 0 o rfl;rw[Nat.add_zero,hF,hM]at k1;simp only[Nat.add_zero,hF]at k2;unfold ff at he;rw[k1]at he;simp only at he;obtain⟨-,-,e3,e4⟩:=cD he;have:=g2 F M V (by rw[k2,e3]) e4 (fun j ao hao=>by
    obtain⟨vcj,prj,q1,q2⟩:=hj (j+1) ao (by simpa using hao);rw[show i+(j+1)=i+1+j by omega]at q1 q2;exact⟨vcj,prj,q1,q2⟩)
   rw[this,List.append_assoc,List.length_cons,List.range_succ_eq_map,List.map_cons,List.map_map];congr 1;simp only[List.singleton_append,Nat.add_zero,hF,hM,List.getD_cons_zero];congr 1;refine List.map_congr_left fun j hj=>?_
   simp only[Function.comp,Nat.succ_eq_add_one,List.getD_cons_succ,show i+(j+1)=i+1+j by omega]
theorem fA:∀(l:List dt) (n:Nat),dp l n=l.getD n .top
 |[],_=>by simp[dp]
 |x::r,0=>rfl
 |x::r,n+1=>by simp only[dp,List.getD_cons_succ];exact fA r n
theorem vS {n m id:Nat} {own:Nat→Bool} {al:List bx} {hs:List (Nat×Hint)} {vc:VC} {pr:List Prop} {fs:List dt} {f':AF} {μ':AM} {R:Exit→AF→AM→Prop} (hc:dM C.P own n ops ops.toList=some al) (hd:mU ops.toList al=true)
  (he:cA (ah C) (aA C) al hs 0 [] [] [] f μ=some (vc,pr,fs,f',μ')) (hvc:aI vc) (hpr:aP pr) (hfree:eK fs (gv ops.toList al)=true) (hR:R .normal f' μ'):AW C n m (.region id ops true) R f μ:=by
 intro w0 S γ w a hW hF;obtain⟨he0,hfs⟩:=ir al 0 [] [] [] f μ he;obtain⟨-,F,M,V,h1,h2,h3,h4,h5⟩:=da al 0 [] [] f μ vc pr f' μ' he0 hvc hpr;have hfs:=hfs F M V h1 h2 fun j ao hao=>by
  obtain⟨vcj,prj,k1,k2,k3,k4⟩:=h5 j ao hao;exact⟨vcj,prj,k1,k4⟩
 obtain⟨hl,hat⟩:=dQ hc;replace hl:al.length=ops.size:=hl.trans (Array.length_toList);rw[Nat.zero_add]at h3 h4;have hT:ku C n own ops al true hs F M V:=⟨hl,fun j hj=>by
  have ho:ops[j]?=some ops[j]:=by simp[hj]
  obtain⟨ao,hao,hco⟩:=hat j ops[j] (by rw[Array.getElem?_toList];exact ho);obtain⟨vcj,prj,k1,k2,k3,k4⟩:=h5 j ao hao;rw[Nat.zero_add]at k1 k4;have hg:al.getD j default=ao:=by rw[List.getD,hao];rfl
  exact⟨_,vcj,prj,ho,by rw[hg];exact hco,by rw[hg];exact k1,k2,k3,by rw[hg];exact k4⟩⟩
 simp only[mU,Bool.and_eq_true]at hd;have hdep:∀p q,p<q→q<ops.size→lP (al.getD p default) (al.getD q default)=true→((dR ops.toList []).getD q 0).testBit p=true:=fun p q hpq hq hdp=>by
  have h6:=List.all_eq_true.mp hd.2 q (List.mem_range.mpr (by omega));have h7:=List.all_eq_true.mp h6 p (List.mem_range.mpr hpq);rw[hdp]at h7;simpa using h7
 have hft:∀k,k<ops.size→dp fs k=aV (M k) (aN (F k) (tmpsOf (al.getD k default).k)) (bF hs k) (al.getD k default).k:=fun k hk=>by
  rw[fA,hfs,List.nil_append,List.getD,List.getElem?_map,List.getElem?_range (by omega)];simp only[Option.map_some,Option.getD_some,Nat.zero_add]
 have hm:∀p q,p<q→q<ops.size→mT (al.getD p default) (al.getD q default)=true→((dR ops.toList []).getD q 0).testBit p=true∨cv (dp fs p) (dp fs q)=true:=fun p q hpq hq hdp=>by
  cases hb:((dR ops.toList []).getD q 0).testBit p with
  |true=>exact .inl rfl
  |false=>exact .inr (iT hfree p q (gF hpq (by omega) hdp hb))
 obtain⟨hW1,hE1⟩:=hW.drew;refine wp_region_any C.mixed (xO hT hft hd.1 hdep hm (by rw[←hl,h3,h4];exact hR) ops.size (Array.replicate ops.size false) S γ w.drew a (by simp) (Nat.le_trans (List.countP_le_length) (by simp)) ?_ hE1 ?_ ?_)
 ·intro j o ho hj;have hjs:j<ops.size:=by
   apply Classical.byContradiction;intro hn;rw[Array.getElem?_eq_none (by omega)]at ho;cases ho
  simp[Array.getD,hjs]at hj
 ·have:∀k,k≤ops.size→dv (M 0) al (dp fs) M (fun j=>(Array.replicate ops.size false).getD j true) k=M 0:=by
   intro k;induction k with
   |zero=>intro _;rfl
   |succ k ih =>
    intro hk;have:(Array.replicate ops.size false).getD k true=false:=by simp[Array.getD];omega
    rw[dv,this,Bool.false_and,cond_false,ih (by omega)]
  rw[this _ (Nat.le_refl _),h2];exact hW1
 have:∀k,k≤ops.size→GF (F 0) al V (fun j=>(Array.replicate ops.size false).getD j true) k=F 0:=by
  intro k;induction k with
  |zero=>intro _;rfl
  |succ k ih =>
   intro hk;have:(Array.replicate ops.size false).getD k true=false:=by simp[Array.getD];omega
   rw[GF,this,cond_false,ih (by omega)]
 rw[this _ (Nat.le_refl _),h1];exact hF.drew hE1
end
end
section
def FU:List Oper→Bool
 |[]=>false
 |o::r=>match o.op with
  | .range _ _=>true
  | .next _ _=>true
  | .entry _=>true
  |_=>FU r
def comp (P:Program) (own:Nat→Bool) (n:Nat):Code→Option af
 | .skip=>some .skip
 | .region id ops draw=>match dM P own n ops ops.toList with
  |some al=>bif !draw||nR ops.toList al then some (.region draw al) else bif mU ops.toList al then some (.regionF al (gv ops.toList al)) else some .stuck
  |none=>match draw,vp P own n ops ops.toList with
   |false,some (pre,t,suf)=>some (.tab pre t suf)
   |_,_=>match FU ops.toList with
    |true=>some (.raw (.region id ops draw))
    |false=>some .stuck
 | .seq a b=>match comp P own n a,comp P own n b with
  |some x,some y=>some (.seq x y)
  |_,_=>none
 | .cond c a b=>match aB c,comp P own n a,comp P own n b with
  |some o,some x,some y=>some (.cond o x y)
  |_,_,_=>none
 | .block id b=>match comp P own n b with
  |some x=>some (.block id x)
  |none=>none
 | .loop b=>match comp P own n b with
  |some x=>some (.loop x)
  |none=>none
 | .exit id=>some (.exit id)
 | .ret=>some .ret
 | .rangeFunc g ps a b=>match aB g,comp P own n a,comp P own n b with
  |some o,some x,some y=>some (.range o ps.toList x y)
  |_,_,_=>none
 |_=>some .stuck
def Aw (C:Ctx) (own:Nat→Bool) (n m:Nat) (x:af) (R:Exit→AF→AM→Prop) (f:AF) (μ:AM):Prop :=
 ∀c,comp C.P own n c=some x→AW C n m c R f μ
theorem ck {α:Type} {b c:Bool} {x y z s:α} (h:(bif b then some x else bif c then some y else some s)=some z):x=z∨y=z∨s=z:=by
 cases b with
 |true=>exact .inl (Option.some.inj h)
 |false =>
  cases c with
  |true=>exact .inr (.inl (Option.some.inj h))
  |false=>exact .inr (.inr (Option.some.inj h))
theorem qW {α:Type} {b c:Bool} {x y z s:α} (h:(bif b then some x else bif c then some y else some s)=some z) (hs:s≠z):(b=true∧x=z)∨(c=true∧y=z):=by
 cases b with
 |true=>exact .inl ⟨rfl,Option.some.inj h⟩
 |false =>
  cases c with
  |true=>exact .inr ⟨rfl,Option.some.inj h⟩
  |false=>exact absurd (Option.some.inj h) hs
def eb (K:AF→AM→Prop) (R:Exit→AF→AM→Prop):Exit→AF→AM→Prop
 | .normal,f,μ=>K f μ
 |e,f,μ=>R e f μ
def ec (id:Nat) (R:Exit→AF→AM→Prop):Exit→AF→AM→Prop
 | .exit i,f,μ=>bif Nat.beq i id then R .normal f μ else R (.exit i) f μ
 |e,f,μ=>R e f μ
section
variable {C:Ctx} {own:Nat→Bool} {n m:Nat} {R:Exit→AF→AM→Prop} {f:AF} {μ:AM}
theorem uq (h:R .normal f μ):Aw C own n m .skip R f μ:=by
 intro c hc w0 S γ w a hW hF;cases c<;>simp only[comp]at hc;case skip=>exact wp_skip ⟨S,γ,f,μ,fH.refl _ _ _ _,hW,hF,h⟩
 all_goals repeat' split at hc
 all_goals first
  |(cases hc;done)
  |(rcases ck hc with hc|hc|hc<;>cases hc)
theorem jE {P:Program} {c:Code} {draw:Bool} {al:List bx} (hc:comp P own n c=some (.region draw al)):∃id ops,c= .region id ops draw∧dM P own n ops ops.toList=some al∧(draw=true→nR ops.toList al=true):=by
 cases c<;>simp only[comp]at hc;case region id ops d =>
  split at hc
  ·rename_i al' h1;rcases qW hc (by simp) with⟨h2,hc⟩|⟨h2,hc⟩
   ·injection hc with e1 e2
    subst e1 e2;refine⟨id,ops,rfl,h1,fun hd=>?_⟩;subst hd;simpa using h2
   cases hc
  (repeat' split at hc)<;>cases hc
 all_goals repeat' split at hc
 all_goals first
  |(cases hc;done)
  |(injection hc with hc;cases hc)
theorem qX {draw cm:Bool} {al:List bx} (hs:List (Nat×Hint)) {vc:VC} {pr:List Prop} {f':AF} {μ':AM}
  (he:cV (ah C) (aA C) cm draw al hs 0 [] [] f μ=some (vc,pr,f',μ')) (hvc:aI vc) (hpr:aP pr) (h:R .normal f' μ'):Aw C own n m (.region draw al) R f μ:=by
 intro c hc;obtain⟨id,ops,rfl,h1,h2⟩:=jE hc;exact Am h1 h2 he hvc hpr h
theorem kz {P:Program} {c:Code} {al:List bx} {free:List (Nat×Nat)} (hc:comp P own n c=some (.regionF al free)):∃id ops,c= .region id ops true∧dM P own n ops ops.toList=some al∧mU ops.toList al=true∧free=gv ops.toList al:=by
 cases c<;>simp only[comp]at hc;case region id ops d =>
  split at hc
  ·rename_i al' h1;cases d with
   |false =>
    rcases qW hc (by simp) with⟨h2,hc⟩|⟨h2,hc⟩
    ·cases hc
    exfalso;rename_i hc0;simp at hc0
   |true =>
    rcases qW hc (by simp) with⟨h2,hc⟩|⟨h2,hc⟩
    ·cases hc
    injection hc with e1 e2
    subst e1 e2;exact⟨id,ops,rfl,h1,h2,rfl⟩
  (repeat' split at hc)<;>cases hc
 all_goals repeat' split at hc
 all_goals first
  |(cases hc;done)
  |(injection hc with hc;cases hc)
theorem vT {al:List bx} {free:List (Nat×Nat)} (hs:List (Nat×Hint)) {vc:VC} {pr:List Prop} {fs:List dt} {f':AF} {μ':AM}
  (he:cA (ah C) (aA C) al hs 0 [] [] [] f μ=some (vc,pr,fs,f',μ')) (hvc:aI vc) (hpr:aP pr) (hfree:eK fs free=true) (h:R .normal f' μ'):Aw C own n m (.regionF al free) R f μ:=by
 intro c hc;obtain⟨id,ops,rfl,h1,h2,rfl⟩:=kz hc;exact vS h1 h2 he hvc hpr hfree h
theorem cK {x y:af} (h:Aw C own n m x (eb (fun f μ=>Aw C own n m y R f μ) R) f μ):Aw C own n m (.seq x y) R f μ:=by
 intro c hc w0 S γ w a hW hF;have hcs:∃a b,c= .seq a b∧comp C.P own n a=some x∧comp C.P own n b=some y:=by
  cases c<;>simp only[comp]at hc;case seq a b =>
   split at hc
   ·rename_i x' y' h1 h2;injection hc with hc;injection hc with e1 e2
    subst e1 e2;exact⟨a,b,rfl,h1,h2⟩
   cases hc
  all_goals repeat' split at hc
  all_goals first
   |(cases hc;done)
   |(injection hc with hc;cases hc;done)
   |(rcases ck hc with hc|hc|hc<;>cases hc)
 obtain⟨c1,c2,rfl,h1,h2⟩:=hcs;refine wp_seq (wp_mono (h c1 h1 w0 S γ w a hW hF) fun e a' w' hE=>?_);obtain⟨S',γ',f',μ',g1,g2,g3,g4⟩:=hE;cases e with
 |normal=>exact wp_mono (g4 c2 h2 w0 S' γ' w' a' g2 g3) fun e a'' w'' hh=>hh.ext g1
 |_=>exact⟨S',γ',f',μ',g1,g2,g3,g4⟩
theorem ur {o:cn} {x y:af} {t:Bool} (ho:ev f o= .pv (.bool t)) (h:Aw C own n m (bif t then x else y) R f μ):Aw C own n m (.cond o x y) R f μ:=by
 intro c hc w0 S γ w a hW hF;have hcs:∃q a b,c= .cond q a b∧aB q=some o∧comp C.P own n a=some x∧comp C.P own n b=some y:=by
  cases c<;>simp only[comp]at hc;case cond q a b =>
   split at hc
   ·rename_i o' x' y' h0 h1 h2;injection hc with hc;injection hc with e0 e1 e2
    subst e0 e1 e2;exact⟨q,a,b,rfl,h0,h1,h2⟩
   cases hc
  all_goals repeat' split at hc
  all_goals first
   |(cases hc;done)
   |(injection hc with hc;cases hc;done)
   |(rcases ck hc with hc|hc|hc<;>cases hc)
 obtain⟨q,c1,c2,rfl,h0,h1,h2⟩:=hcs;have hv:=aO (w:=w) (S:=S) (γ:=γ) (f:=f) (a:=a) h0 fun t _=>hF.val t
 rw[ho]at hv;have hv:=cd hv;refine wp_cond hv ?_;cases t with
 |true=>exact h c1 h1 w0 S γ w a hW hF
 |false=>exact h c2 h2 w0 S γ w a hW hF
theorem qY {id:Nat} {x:af} (h:Aw C own n m x (ec id R) f μ):Aw C own n m (.block id x) R f μ:=by
 intro c hc w0 S γ w a hW hF;have hcs:∃a,c= .block id a∧comp C.P own n a=some x:=by
  cases c<;>simp only[comp]at hc;case block i a =>
   split at hc
   ·rename_i x' h1;injection hc with hc;injection hc with e0 e1
    subst e0 e1;exact⟨a,rfl,h1⟩
   cases hc
  all_goals repeat' split at hc
  all_goals first
   |(cases hc;done)
   |(injection hc with hc;cases hc;done)
   |(rcases ck hc with hc|hc|hc<;>cases hc)
 obtain⟨c1,rfl,h1⟩:=hcs;refine wp_block (wp_mono (h c1 h1 w0 S γ w a hW hF) fun e a' w' hE=>?_);obtain⟨S',γ',f',μ',g1,g2,g3,g4⟩:=hE;cases e with
 |exit i =>
  simp only[ec]at g4;simp only[Exit.inBlock];by_cases hi:i=id
  ·subst hi;rw[if_pos rfl];rw[Nat.beq_refl,cond_true]at g4;exact⟨S',γ',f',μ',g1,g2,g3,g4⟩
  rw[if_neg hi];have:Nat.beq i id=false:=by
   rw[Bool.eq_false_iff];exact fun hb=>hi (Nat.eq_of_beq_eq_true hb)
  rw[this,cond_false]at g4;exact⟨S',γ',f',μ',g1,g2,g3,g4⟩
 |_=>exact⟨S',γ',f',μ',g1,g2,g3,g4⟩
theorem uu {id:Nat} (h:R (.exit id) f μ):Aw C own n m (.exit id) R f μ:=by
 intro c hc w0 S γ w a hW hF;have hcs:c= .exit id:=by
  cases c<;>simp only[comp]at hc;case exit i=>injection hc with hc;injection hc with hc;rw[hc]
  all_goals repeat' split at hc
  all_goals first
   |(cases hc;done)
   |(injection hc with hc;cases hc;done)
   |(rcases ck hc with hc|hc|hc<;>cases hc)
 subst hcs;exact wp_exit ⟨S,γ,f,μ,fH.refl _ _ _ _,hW,hF,h⟩
theorem xP (h:R .ret f μ):Aw C own n m .ret R f μ:=by
 intro c hc w0 S γ w a hW hF;have hcs:c= .ret:=by
  cases c<;>simp only[comp]at hc;case ret=>rfl
  all_goals repeat' split at hc
  all_goals first
   |(cases hc;done)
   |(injection hc with hc;cases hc;done)
   |(rcases ck hc with hc|hc|hc<;>cases hc)
 subst hcs;exact wp_ret ⟨S,γ,f,μ,fH.refl _ _ _ _,hW,hF,h⟩
theorem lR {P:Program} {c:Code} {Q:Exit→Act→World→Prop}:∀{l l':Nat},l≤l'→∀{a:Act} {w:World},Code.rounds P c Q l a w→Code.rounds P c Q l' a w
 |0,_,_,_,_,h=>h.elim
 |l+1,0,h,_,_,_=>by omega
 |l+1,l'+1,h,a,w,hr=>by
  rw[rounds_succ]at hr ⊢;refine wp_mono hr fun e a' w' he=>?_
  cases e with
  |normal=>exact lR (by omega) he
  |_=>exact he
theorem pX {x:af} (I:Nat→AF→AM→Prop) (hstep:∀k f μ,I k f μ→Aw C own n m x (eb (fun f' μ'=>∃j,j<k∧I j f' μ') R) f μ) (k:Nat) (h:I k f μ):Aw C own n m (.loop x) R f μ:=by
 intro c hc w0 S γ w a hW hF;have hcs:∃a,c= .loop a∧comp C.P own n a=some x:=by
  cases c<;>simp only[comp]at hc;case loop a =>
   split at hc
   ·rename_i x' h1;injection hc with hc;injection hc with e1
    subst e1;exact⟨a,rfl,h1⟩
   cases hc
  all_goals repeat' split at hc
  all_goals first
   |(cases hc;done)
   |(injection hc with hc;cases hc;done)
   |(rcases ck hc with hc|hc|hc<;>cases hc)
 obtain⟨c1,rfl,h1⟩:=hcs;have key:∀(k:Nat) (f1:AF) (μ1:AM) (S1:Nat→Prop) (γ1:Gh) (w1:World) (a1:Act),I k f1 μ1→fH m w S γ w1 S1 γ1→Wd C w0 S1 γ1 μ1 w1→FR C.D n w1 S1 γ1 f1 a1→Code.rounds C.P c1 (Ends C n m w0 w S γ R) (k+1) a1 w1:=by
  intro k;induction k using Nat.strongRecOn with
  |_ k ih =>
   intro f1 μ1 S1 γ1 w1 a1 hI hE hW1 hF1;rw[rounds_succ];refine wp_mono (hstep k f1 μ1 hI c1 h1 w0 S1 γ1 w1 a1 hW1 hF1) fun e a' w' hh=>?_
   obtain⟨S',γ',f',μ',g1,g2,g3,g4⟩:=hh;cases e with
   |normal =>
    obtain⟨j,hj,hIj⟩:=g4;exact lR (by omega) (ih j hj f' μ' S' γ' w' a' hIj (hE.trans g1) g2 g3)
   |_=>exact⟨S',γ',f',μ',hE.trans g1,g2,g3,g4⟩
 exact wp_loop_rounds (k+1) (key k f μ S γ w a h (fH.refl _ _ _ _) hW hF)
def Sub:AF→AF→Prop
 |[],_=>True
 |(t,v)::r,f=>get f t=v∧Sub r f
theorem pY {g f:AF} (h:Sub g f) (t:Nat):get g t= .any∨get g t=get f t:=by
 induction g with
 |nil=>exact .inl rfl
 |cons x r ih =>
  obtain⟨s,v⟩:=x;simp only[get];cases hb:Nat.beq s t with
  |true =>
   have:=Nat.eq_of_beq_eq_true hb;subst this;rw[cond_true];exact .inr h.1.symm
  |false=>rw[cond_false];exact ih h.2
theorem dy (g:AF) {x:af} (hs:Sub g f) (h:Aw C own n m x R g μ):Aw C own n m x R f μ:=by
 intro c hc w0 S γ w a hW hF;refine h c hc w0 S γ w a hW ⟨hF.size,hF.defers,fun t=>?_⟩;rcases pY hs t with h|h
 ·rw[h];exact .any _
 rw[h];exact hF.val t
theorem dE {x:af} {R':Exit→AF→AM→Prop} (h:Aw C own n m x R f μ) (hr:∀e f μ,R e f μ→R' e f μ):Aw C own n m x R' f μ:=by
 intro c hc w0 S γ w a hW hF;refine wp_mono (h c hc w0 S γ w a hW hF) fun e a' w' hh=>?_
 obtain⟨S',γ',f',μ',g1,g2,g3,g4⟩:=hh;exact⟨S',γ',f',μ',g1,g2,g3,hr _ _ _ g4⟩
end
end
section
def cC:Nat→Nat→AV→Bool
 |_,_,.pv _=>true
 |_,m,.ref b _ _ _=>Nat.blt b m
 |_,m,.ptr b _ _=>Nat.blt b m
 |_,_,.iptr _ _=>true
 |_,_,.any=>true
 |_,m,.map b _=>Nat.blt b m
 |0,_,_=>false
 |d+1,m,.agg l=>l.all (cC d m)
 |d+1,m,.tup l=>l.all (cC d m)
 |d+1,m,.fn _ l=>l.all (cC d m)
 |d+1,m,.bm _ l=>l.all (cC d m)
 |d+1,m,.ifb _ v=>cC d m v
def mu (f:AF) (m:Nat):Bool:=f.all fun x=>cC 3 m x.2
def aY (μ:AM) (m:Nat):Bool:=μ.all fun k=>k.cells.all (cC 3 m)
section
variable {C:Ctx} {own:Nat→Bool} {n m:Nat} {R:Exit→AF→AM→Prop} {f:AF} {μ:AM} {w0 w:World} {S:Nat→Prop} {γ:Gh}
theorem qZ {γ':Gh} {m:Nat} (hγ:∀b,b<m→γ' b=γ b):∀(d:Nat) {a:AV} {v:Value},cC d m a=true→VR w S γ a v→VR w S γ' a v:=by
 intro d;induction d with
 |zero =>
  intro a v hb hv;cases hv with
  |pv p v h=>exact .pv p v h
  |ref b g off n v e a c h1 h2 h3 h4=>exact .ref b g off n v e a c ((hγ b (Nat.blt_eq.mp hb)).trans h1) h2 h3 h4
  |ptr b g off v e a h1 h2 h3 h4=>exact .ptr b g off v e a ((hγ b (Nat.blt_eq.mp hb)).trans h1) h2 h3 h4
  |iptr l off g o c h1 h2 h3=>exact .iptr l off g o c h1 h2 h3
  |any=>exact .any _
  |map b g v e r h1 h2 h3 h4=>exact .map b g v e r ((hγ b (Nat.blt_eq.mp hb)).trans h1) h2 h3 h4
  |agg=>simp[cC]at hb
  |tup=>simp[cC]at hb
  |fn=>simp[cC]at hb
  |bm=>simp[cC]at hb
  |ifb=>simp[cC]at hb
 |succ d ih =>
  intro a v hb hv;cases hv with
  |pv p v h=>exact .pv p v h
  |ref b g off n v e a c h1 h2 h3 h4=>exact .ref b g off n v e a c ((hγ b (Nat.blt_eq.mp hb)).trans h1) h2 h3 h4
  |ptr b g off v e a h1 h2 h3 h4=>exact .ptr b g off v e a ((hγ b (Nat.blt_eq.mp hb)).trans h1) h2 h3 h4
  |iptr l off g o c h1 h2 h3=>exact .iptr l off g o c h1 h2 h3
  |any=>exact .any _
  |map b g v e r h1 h2 h3 h4=>exact .map b g v e r ((hγ b (Nat.blt_eq.mp hb)).trans h1) h2 h3 h4
  |agg l cs hl hat=>exact .agg l cs hl fun i p v h1 h2=>ih (List.all_eq_true.mp hb p (List.mem_of_getElem? h1)) (hat i p v h1 h2)
  |tup l cs hl hat=>exact .tup l cs hl fun i p v h1 h2=>ih (List.all_eq_true.mp hb p (List.mem_of_getElem? h1)) (hat i p v h1 h2)
  |fn g l cs hl hat=>exact .fn g l cs hl fun i p v h1 h2=>ih (List.all_eq_true.mp hb p (List.mem_of_getElem? h1)) (hat i p v h1 h2)
  |bm g l cs hl hat=>exact .bm g l cs hl fun i p v h1 h2=>ih (List.all_eq_true.mp hb p (List.mem_of_getElem? h1)) (hat i p v h1 h2)
  |ifb c a v h1 h2=>exact .ifb c a v (fun h=>ih hb (h1 h)) h2
def cQ (γ:Gh) (m:Nat):Gh:=fun b=>if b<m then γ b else none
theorem Wd.drop {junk:AM} (hW:Wd C w0 S γ (μ++junk) w) (hm:aY μ μ.length=true):Wd C w0 S (cQ γ μ.length) μ w:=by
 have hγ:∀b,b<μ.length→cQ γ μ.length b=γ b:=fun b h=>by simp[cQ,h]
 refine⟨⟨fun b k hk hz=>?_,fun b k hk hz=>?_,fun b hb=>by simp[cQ];omega,fun b b' e e' h1 h2 h3=>?_⟩,hW.below,hW.live,hW.env⟩
 ·have hbl:b<μ.length:=(List.getElem?_eq_some_iff.mp hk).1;obtain⟨e,cs,h1,h2,h3,h4,h5,h6,h7,h8,h9⟩:=hW.mem.blk b k (by rw[List.getElem?_append_left hbl];exact hk) hz;refine⟨e,cs,(hγ b hbl).trans h1,h2,h3,h4,h5,h6,fun i x hx=>?_,h8,h9⟩;obtain⟨v,g1,g2,g3⟩:=h7 i x hx;have hk':=List.all_eq_true.mp hm k (List.mem_of_getElem? hk);exact⟨v,g1,qZ hγ 3 (List.all_eq_true.mp hk' x (List.mem_of_getElem? hx)) g2,g3⟩
 ·have hbl:b<μ.length:=(List.getElem?_eq_some_iff.mp hk).1;obtain⟨e,h1,h2,h3,⟨es,clock,q1,q2,q3⟩,h5,h6⟩:=hW.mem.mp b k (by rw[List.getElem?_append_left hbl];exact hk) hz;have hk':=List.all_eq_true.mp hm k (List.mem_of_getElem? hk);exact⟨e,(hγ b hbl).trans h1,h2,h3,⟨es,clock,q1,⟨q2.len,fun i x v hx hv=>qZ hγ 3 (List.all_eq_true.mp hk' x (List.mem_of_getElem? hx)) (q2.at_ i x v hx hv)⟩,q3⟩,h5,h6⟩
 unfold cQ at h1 h2;split at h1
 ·split at h2
  ·exact hW.mem.inj b b' e e' h1 h2 h3
  cases h2
 cases h1
theorem vU {m:Nat} (h:mu f m=true) (t:Nat):cC 3 m (get f t)=true:=by
 induction f with
 |nil=>rfl
 |cons x r ih =>
  obtain⟨s,v⟩:=x;simp only[mu,List.all_cons,Bool.and_eq_true]at h;simp only[get];cases Nat.beq s t with
  |true=>exact h.1
  |false=>exact ih h.2
theorem yY {junk:AM} {x:af} (hml:m≤μ.length) (hf:mu f μ.length=true) (hm:aY μ μ.length=true) (h:Aw C own n m x R f μ):Aw C own n m x R f (μ++junk):=by
 intro c hc w0 S γ w a hW hF;have hγ:∀b,b<μ.length→cQ γ μ.length b=γ b:=fun b h=>by simp[cQ,h]
 have hsub:∀b e,cQ γ μ.length b=some e→γ b=some e:=fun b e h=>by
  unfold cQ at h;split at h
  ·exact h
  cases h
 refine wp_mono (h c hc w0 S (cQ γ μ.length) w a (hW.drop hm) ⟨hF.size,hF.defers,fun t=>qZ hγ 3 (vU hf t) (hF.val t)⟩) fun e a' w' hh=>?_
 obtain⟨S',γ',f',μ',g1,g2,g3,g4⟩:=hh;refine⟨S',γ',f',μ',⟨g1.stay,fun b e hb he=>g1.gh b e hb ((hγ b (by omega)).trans he),fun g hg=>?_,fun b e' hb=>?_,g1.size,fun g hg hn=>g1.frame g hg fun b e h=>hn b e (hsub b e h)⟩,g2,g3,g4⟩
 ·rcases g1.more g hg with h|⟨b,e,h1,h2⟩|h
  ·exact .inl h
  ·exact .inr (.inl ⟨b,e,hsub b e h1,h2⟩)
  exact .inr (.inr h)
 rcases g1.cbs b e' hb with⟨b0,e,h1,h2⟩|h
 ·exact .inl ⟨b0,e,hsub b0 e h1,h2⟩
 exact .inr h
def xQ (S:Nat→Prop) (γ:Gh) (g:Nat):Prop:=S g∨∃b e,γ b=some e∧e.cb=g
theorem yZ (hW:Wd C w0 S γ μ w):∀(d:Nat) {v:AV} {u:Value} {p:PV},fD μ d v=some p→VR w S γ v u→Is w (xQ S γ) p u:=by
 intro d;induction d with
 |zero =>
  intro v u p h hv;cases v with
  |pv q =>
   simp only[fD,Option.some.injEq]at h;subst h;exact(cB hv).stay (jP fun _ h=>.inl h)
  |_=>simp[fD]at h
 |succ d ih =>
  intro v u p h hv;cases v with
  |pv q =>
   simp only[fD,Option.some.injEq]at h;subst h;exact(cB hv).stay (jP fun _ h=>.inl h)
  |ref b g off n =>
   simp only[fD]at h;split at h
   ·rename_i k hk;obtain⟨hc,h⟩:=aQ h;simp only[Bool.and_eq_true]at hc;have hkz:k.sz≠0:=fun h=>by rw[h]at hc;cases hc.1.1
    have hg:=Nat.eq_of_beq_eq_true hc.1.2;have hle:=Nat.le_of_ble_eq_true hc.2;split at h
    ·rename_i ps hps;injection h with h;subst h
     obtain⟨e,cs,he,hgen,hsz,⟨_,hheap,-⟩,hcs,hkl,hcells,-,-⟩:=hW.mem.blk b k hk hkz;cases hv with
     |ref _ _ _ _ _ e' ad c hb' hg' hvc hs =>
      rw[he]at hb';injection hb' with hb';subst hb'
      have hTc:xQ S γ e.cb:=.inr ⟨b,e,he,rfl⟩;have hpw:PW (fun a x=>VR w S γ a x∧x.oneCell'=true) ((k.cells.drop off).take (n*k.sz)) ((cs.toList.drop off).take (n*k.sz)):=by
       refine⟨by simp;omega,fun i a x ha hx=>?_⟩;rw[List.getElem?_take]at ha hx;split at ha
       ·rename_i hi;rw[if_pos hi]at hx;rw[List.getElem?_drop]at ha hx;obtain⟨y,g1,g2,g3⟩:=hcells _ a ha;rw[Array.getElem?_toList,g1]at hx;injection hx with hx;subst hx
        exact⟨g2,g3⟩
       cases ha
      have hq:=gq (Q:=fun p x=>Is w (xQ S γ) p x∧x.oneCell'=true) hps hpw fun v _ p u h1 h2=>⟨ih h1 h2.1,h2.2⟩
      have hlen:ps.length=n*k.sz:=by rw[hq.len];simp;omega
      have hget:∀(i:Nat) q,ps[i]?=some q→∃x,cs[off+i]?=some x∧Is w (xQ S γ) q x∧x.oneCell'=true:=fun i q hqi=>by
       have hi:i<n*k.sz:=by rw[←hlen];exact(List.getElem?_eq_some_iff.mp hqi).1
       have hx:((cs.toList.drop off).take (n*k.sz))[i]?=some (cs[off+i]'(by omega)):=by
        rw[List.getElem?_take,if_pos hi,List.getElem?_drop,Array.getElem?_toList];simp
       have:=hq.at_ i q _ hqi hx;exact⟨_,by simp,this⟩
      rcases hs (by omega) with⟨cap,hv',-,h2,h3⟩|⟨hn0,-,o',cap,hv',h3⟩
      ·rw[hv'];refine .sl n ps e.cb off cap (fun i=>cs.getD (off+i) undef) hTc h2 h3 (fun i q hq=>?_) (fun i q hq=>?_) (fun i q hq=>?_)
       ·obtain⟨x,g1,-,-⟩:=hget i q hq;simp[World.cell?,hheap,g1]
       ·obtain⟨x,g1,-,g3⟩:=hget i q hq;simpa [g1]using g3
       obtain⟨x,g1,g2,-⟩:=hget i q hq;simpa [g1]using g2
      subst hn0;have:ps=[]:=List.eq_nil_of_length_eq_zero (by rw[hlen];simp);subst this;rw[hv'];exact .sl 0 [] e.cb o' cap (fun _=>undef) hTc (Nat.zero_le _) h3 (fun i q hq=>by simp at hq) (fun i q hq=>by simp at hq) (fun i q hq=>by simp at hq)
    cases h
   cases h
  |map b g =>
   simp only[fD]at h;split at h
   ·rename_i k hk;obtain⟨hc,h⟩:=aQ h;simp only[Bool.and_eq_true]at hc;have hkz:=Nat.eq_of_beq_eq_true hc.1;have hg:=Nat.eq_of_beq_eq_true hc.2;split at h
    ·rename_i ps hps;injection h with h;subst h
     obtain⟨e,es,clock,g1,rfl,g3,g4,-⟩:=qM hW hk hkz hg hv;have g5:=gq (Q:=Is w (xQ S γ)) hps g4 fun v _ p u h1 h2=>ih h1 h2
     exact .mp ps e.cb es clock (.inr ⟨b,e,g1,rfl⟩) g3 g5.len g5.at_
    cases h
   cases h
  |agg l =>
   simp only[fD]at h;split at h
   ·rename_i ps hps;injection h with h;subst h
    cases hv with
    |agg _ cs hl hat =>
     have:=gq (Q:=Is w (xQ S γ)) hps (⟨hl,hat⟩:PW (VR w S γ) l cs) fun v _ p u h1 h2=>ih h1 h2
     exact .agg _ _ this.len this.at_
   cases h
  |tup l =>
   simp only[fD]at h;split at h
   ·rename_i ps hps;injection h with h;subst h
    cases hv with
    |tup _ cs hl hat =>
     have:=gq (Q:=Is w (xQ S γ)) hps (⟨hl,hat⟩:PW (VR w S γ) l cs) fun v _ p u h1 h2=>ih h1 h2
     exact .tup _ _ this.len this.at_
   cases h
  |fn g caps =>
   cases caps with
   |nil =>
    simp only[fD,Option.some.injEq]at h;subst h;cases hv with
    |fn _ _ cs hl _ =>
     have:cs=[]:=List.eq_nil_of_length_eq_zero (by simpa using hl.symm);subst this;exact .val _
   |cons c cs=>simp[fD]at h
  |ptr=>simp[fD]at h
  |bm=>simp[fD]at h
  |iptr=>simp[fD]at h
  |ifb=>simp[fD]at h
  |any=>simp[fD]at h
inductive iU where
 |t (n:Nat)
 |cell (p size:Nat) (ag:Bool)
def nU (P:Program):List ResultVar→Option (List iU)
 |[]=>some []
 | .tmp t::r=>match nU P r with
  |some l=>some (.t t::l)
  |none=>none
 | .cell p t::r=>match fW P t,bQ P t,nU P r with
  |some ag,some s,some l=>bif ag||Nat.beq s 1 then some (.cell p s ag::l) else none
  |_,_,_=>none
def jI (f:AF) (μ:AM):iU→Option (VC×AV)
 | .t n=>some ([],get f n)
 | .cell p s ag=>match get f p with
  | .ptr b g o=>match μ[b]? with
   |some k=>bif Nat.beq k.sz 0 then none else some ([((g:Int),(k.gen:Int)),((k.gen:Int),(g:Int)),((o+s:Nat),(k.cells.length:Int))],cS k.cells o s ag)
   |none=>none
  |_=>none
def gw (f:AF) (μ:AM):List iU→Option (VC×List AV)
 |[]=>some ([],[])
 |r::l=>match jI f μ r,gw f μ l with
  |some (vc,v),some (vc',vs)=>some (vc++vc',v::vs)
  |_,_=>none
def bM (f:AF) (μ:AM) (l:List iU):Option (VC×AV):=match gw f μ l with
 |some (vc,[v])=>some (vc,v)
 |some (vc,vs)=>some (vc,iM vs)
 |none=>none
end
end
section
section
variable {C:Ctx} {own:Nat→Bool} {n m:Nat} {R:Exit→AF→AM→Prop} {f:AF} {μ:AM} {w0 w:World} {S:Nat→Prop} {γ:Gh} {a:Act}
def uv (tmps:Array Value) (r:ResultVar):Sem Value:=match r with
 | .tmp t=>pure (tmps.getD t undef)
 | .cell p t=>do loadVar t (←asAddr (tmps.getD p undef))
theorem ra (fn:Func) (tmps:Array Value):results fn tmps=(do let vs ←fn.results.mapM (uv tmps);pure (if h:vs.size=1 then vs[0] else .tuple vs)):=rfl
theorem vV {P:Program} (hP:P=C.P) (hW:Wd C w0 S γ μ w) (hF:FR C.D n w S γ f a):∀(l:List ResultVar) (rs:List iU),nU P l=some rs→∀(vc:VC) (vs:List AV),gw f μ rs=some (vc,vs)→aI vc →
  ∃us,(l.mapM (uv a.tmps)).run C.P w= .ok us w∧PW (VR w S γ) vs us:=by
 subst hP;intro l;induction l with
 |nil =>
  intro rs h vc vs he _;simp only[nU,Option.some.injEq]at h;subst h;simp only[gw,Option.some.injEq,Prod.mk.injEq]at he;obtain⟨rfl,rfl⟩:=he;exact⟨[],by simp,⟨rfl,fun i x y h=>by simp at h⟩⟩
 |cons x r ih =>
  intro rs h vc vs he hvc;cases x with
  |tmp t =>
   simp only[nU]at h;split at h
   ·rename_i l' hl;injection h with h;subst h
    simp only[gw,jI]at he;split at he
    ·rename_i vc1 v vc2 vs' h1 h2;simp only[Option.some.injEq,Prod.mk.injEq]at h1;obtain⟨rfl,rfl⟩:=h1;simp only[Option.some.injEq,Prod.mk.injEq]at he;obtain⟨rfl,rfl⟩:=he;obtain⟨us,hr,hp⟩:=ih l' hl _ _ h2 (ew hvc).2;refine⟨a.tmps.getD t undef::us,?_,⟨by simp[hp.len],fun i x y hx hy=>?_⟩⟩
     ·simp only[List.mapM_cons,uv,Sem.run_bind,Sem.run_pure,Result.andThen_ok,hr]
     cases i with
     |zero =>
      simp only[List.getElem?_cons_zero,Option.some.injEq]at hx hy;subst hx hy;exact hF.val t
     |succ i=>exact hp.at_ i x y (by simpa using hx) (by simpa using hy)
    cases he
   cases h
  |cell p t =>
   simp only[nU]at h;split at h
   ·rename_i ag s l' hag hs hl;obtain⟨hb,h⟩:=aQ h;injection h with h;subst h
    simp only[gw]at he;split at he
    ·rename_i vc1 v vc2 vs' h1 h2;simp only[Option.some.injEq,Prod.mk.injEq]at he;obtain⟨rfl,rfl⟩:=he;obtain⟨hv1,hv2⟩:=ew hvc;obtain⟨us,hr,hp⟩:=ih l' hl _ _ h2 hv2;simp only[jI]at h1;split at h1
     ·rename_i b g off hg;split at h1
      ·rename_i k hk;obtain⟨hkz,h1⟩:=bE h1;simp only[Option.some.injEq,Prod.mk.injEq]at h1;obtain⟨rfl,rfl⟩:=h1;simp only[aI]at hv1;have hlp:=hF.val p;rw[hg]at hlp;obtain⟨e,cs,he,hgen,-,⟨_,hheap,-⟩,hcs,hlen,hcells,-⟩:=hW.mem.blk b k hk (fun h=>by rw[h]at hkz;cases hkz);have hxv:a.tmps.getD p undef= .pointer (some ⟨e.cb,off,none⟩):=by
        show a.eval (.tmp p)=_;generalize a.eval (.tmp p)=xv at hlp;cases hlp with
        |ptr _ _ _ _ e' ad hb hg' hv hs' =>
         rw[he]at hb;injection hb with hb;subst hb
         exact hs' (by omega)
       have hcell:∀j,j<s→w.cell? ⟨e.cb,off+j,none⟩=some (cs.getD (off+j) undef):=fun j hj=>by
        obtain⟨v,hv,-⟩:=hcells (off+j) _ (List.getElem?_eq_getElem (by omega));simp[World.cell?,hheap,hv]
       have hrl:=jz (C:=C) hag hs hb hcell;refine⟨(bif ag then .agg ((List.range s).map fun j=>cs.getD (off+j) undef).toArray else cs.getD (off+0) undef)::us,?_,⟨by simp[hp.len],fun i x y hx hy=>?_⟩⟩
       ·simp only[List.mapM_cons,uv,Sem.run_bind,hxv,asAddr,Sem.run_pure,Result.andThen_ok,hrl,hr]
       cases i with
       |zero =>
        simp only[List.getElem?_cons_zero,Option.some.injEq]at hx hy;subst hx hy;cases ag with
        |true =>
         refine jN ⟨by simp;omega,fun i p v h1 h2=>?_⟩;obtain⟨hi,rfl⟩:=dY h2;rw[List.getElem?_take,if_pos hi,List.getElem?_drop]at h1;obtain⟨v,hv,hvr,-⟩:=hcells _ p h1;simp only[Array.getD_eq_getD_getElem?,hv,Option.getD_some];exact hvr
        |false =>
         have hs1:s=1:=by simpa using hb
         subst hs1;show VR w S γ (k.cells.getD off .any) _;rw[List.getD,List.getElem?_eq_getElem (by omega)];obtain⟨v,hv,hvr,-⟩:=hcells off _ (List.getElem?_eq_getElem (by omega));simp only[Nat.add_zero,cond_false,Array.getD_eq_getD_getElem?,hv,Option.getD_some];exact hvr
       |succ i=>exact hp.at_ i x y (by simpa using hx) (by simpa using hy)
      cases h1
     cases h1
    cases he
   cases h
theorem kA {fn:Func} {rs:List iU} {vc:VC} {v:AV} (hW:Wd C w0 S γ μ w) (hF:FR C.D n w S γ f a) (hr:nU C.P fn.results.toList=some rs) (he:bM f μ rs=some (vc,v)) (hvc:aI vc) :
  ∃u,(results fn a.tmps).run C.P w= .ok u w∧VR w S γ v u:=by
 unfold bM at he;split at he
 ·rename_i vc1 v1 h1;simp only[Option.some.injEq,Prod.mk.injEq]at he;obtain⟨rfl,rfl⟩:=he;obtain⟨us,hrun,hp⟩:=vV rfl hW hF fn.results.toList rs hr _ _ h1 hvc;have hus:us.length=1:=hp.len.symm;match us,hus with
  |[u],_ =>
   refine⟨u,?_,hp.at_ 0 _ u rfl rfl⟩;rw[ra,Array.mapM_eq_mapM_toList];simp only[Sem.run_bind,Sem.run_map];rw[hrun];simp
 ·rename_i vc1 vs hne h1;simp only[Option.some.injEq,Prod.mk.injEq]at he;obtain⟨rfl,rfl⟩:=he;obtain⟨us,hrun,hp⟩:=vV rfl hW hF fn.results.toList rs hr _ _ h1 hvc;have hus:us.length≠1:=by
   rw[←hp.len];intro h;match vs,h with
   |[v],_=>exact hne _ rfl
  refine⟨.tuple us.toArray,?_,?_⟩
  ·rw[ra,Array.mapM_eq_mapM_toList];simp only[Sem.run_bind,Sem.run_map];rw[hrun];simp[hus]
  unfold iM;cases hpl:cG vs with
  |none=>exact .tup _ _ hp.len hp.at_
  |some ps =>
   have:=gm hpl;subst this;have h2:=PW.mo hp;exact .pv _ _ (.tup _ _ h2.len h2.at_)
 cases he
def jR:Nat→List AV→AF
 |_,[]=>[]
 |i,v::r=>(i,v)::jR (i+1) r
theorem vW:∀(l:List AV) (i t:Nat),get (jR i l) t=if i≤t∧t<i+l.length then l.getD (t-i) .any else .any
 |[],i,t=>by simp[jR,get]
 |v::r,i,t=>by
  simp only[jR,get];by_cases hit:i=t
  ·subst hit;simp
  have hne:Nat.beq i t=false:=by
   rw[Bool.eq_false_iff];exact fun hb=>hit (Nat.eq_of_beq_eq_true hb)
  rw[hne,cond_false,vW r (i+1) t];by_cases h1:i≤t∧t<i+(v::r).length
  ·simp only[List.length_cons]at h1;rw[if_pos (by omega),if_pos (by simp;omega)];rw[show t-i=(t-(i+1))+1 by omega];simp
  simp only[List.length_cons]at h1;rw[if_neg (by omega),if_neg (by simp;omega)]
theorem nV {fn:Func} {as:List AV} {us:List Value} (hp:PW (VR w S γ) as us) (hl:us.length≤fn.ntmps):FR [] fn.ntmps w S γ (jR 0 as) {tmps:=us.toArray++Array.replicate (fn.ntmps-us.toArray.size) undef,defers:=[]}:=by
 refine⟨by simp;omega,rfl,fun t=>?_⟩;rw[vW];by_cases ht:t<as.length
 ·rw[if_pos (by omega)];have htu:t<us.length:=by rw[←hp.len];exact ht
  have:(us.toArray++Array.replicate (fn.ntmps-us.toArray.size) undef).getD t undef=us[t]:=by
   rw[Array.getD_eq_getD_getElem?,Array.getElem?_append_left (by simpa using htu)];simp[htu]
  show VR w S γ _ ((us.toArray++Array.replicate (fn.ntmps-us.toArray.size) undef).getD t undef);rw[this,Nat.sub_zero,List.getD,List.getElem?_eq_getElem ht];exact hp.at_ t _ _ (List.getElem?_eq_getElem ht) (List.getElem?_eq_getElem htu)
 rw[if_neg (by omega)];exact .any _
def N8 (rs:List iU) (r:PV):Exit→AF→AM→Prop:=fun e f μ=>match e with
 | .normal| .ret=>∃vc v,bM f μ rs=some (vc,v)∧aI vc∧fD μ depth v=some r
 |_=>False
def N9 (rs:List iU) (r:AV) (μ0:AM):Exit→AF→AM→Prop:=fun e f μ=>match e with
 | .normal| .ret=>∃vc junk,bM f μ rs=some (vc,r)∧aI vc∧μ=μ0++junk
 |_=>False
structure Fn (C:Ctx) (fid:FuncId) (own:Nat→Bool) (n:Nat) (k:Nat) (rs:List iU) (x:af):Prop where
 ex:∃fn c,C.P.funcs[fid]?=some fn∧fn.body=some c∧comp C.P own n c=some x∧nU C.P fn.results.toList=some rs∧fn.ntmps=n∧k≤n∧eU C.P fid=true
 dz:C.D=[]
theorem Ap {fid:FuncId} {k:Nat} {rs:List iU} {x:af} {ps:List PV} {r:PV} (h:Fn C fid own n k rs x) (hk:ps.length=k) (hb:Aw C own n 0 x (N8 rs r) (jR 0 (ps.map .pv)) []):ah C fid ps r:=by
 obtain⟨fn,c,h1,h2,h3,h4,h5,h6,h7⟩:=h.ex;refine⟨h7,fun w S us hE hS hp=>?_⟩;have hW:Wd C w S (fun _=>none) [] w:=⟨⟨fun b k hk=>by simp at hk,fun b k hk=>by simp at hk,fun _ _=>rfl,fun b b' e e' h=>by cases h⟩,Below.refl _ _,hS,hE⟩
 have hpv:PW (VR w S (fun _=>none)) (ps.map .pv) us:=PW.iP hp;have hus:us.length≤fn.ntmps:=by rw[←hp.len];omega
 refine calls_of_wp h1 h2 (wp_mono (hb c h3 w S (fun _=>none) w _ hW (by rw[←h5,h.dz];exact nV hpv hus)) fun e a' w' hh=>?_);obtain⟨S',γ',f',μ',g1,g2,g3,g4⟩:=hh;have fin:(∃vc v,bM f' μ' rs=some (vc,v)∧aI vc∧fD μ' depth v=some r)→a'.defers=[]∧∃v,(results fn a'.tmps).run C.P w'= .ok v w'∧∃v_1,Ending.returned v=Ending.returned v_1∧Below w.heap.size w w'∧Is w' (fun g=>S g∨(w.heap.size≤g∧g<w'.heap.size)) r v_1:=by
  rintro⟨vc,v,e1,e2,e3⟩;obtain⟨u,hu,hv⟩:=kA g2 g3 h4 e1 e2;refine⟨g3.defers.trans h.dz,u,hu,u,rfl,g2.below,(yZ g2 depth e3 hv).stay ⟨fun g hg=>?_,fun _ _=>rfl⟩⟩;rcases hg with hg|⟨b,e,he,rfl⟩
  ·rcases g1.more g hg with h|⟨b,e,h,-⟩|h
   ·exact .inl h
   ·cases h
   exact .inr ⟨h,g2.live g hg⟩
  rcases g1.cbs b e he with⟨b0,e0,h,-⟩|h
  ·cases h
  exact .inr ⟨h,g2.fY he⟩
 cases e with
 |normal=>exact fin g4
 |ret=>exact fin g4
 |_=>exact g4.elim
theorem BP {fid:FuncId} {k:Nat} {rs:List iU} {x:af} {as:List AV} {r:AV} {μ0 μ1:AM} (h:Fn C fid own n k rs x) (hk:as.length=k) (hl:μ0.length≤μ1.length) (hr:cC 3 μ1.length r=true) (hm:aY μ1 μ1.length=true)
  (hb:Aw C own n μ0.length x (N9 rs r μ1) (jR 0 as) μ0):aA C fid as μ0 r μ1:=by
 obtain⟨fn,c,h1,h2,h3,h4,h5,h6,h7⟩:=h.ex;refine⟨h7,fun w0 S γ w us hW hp=>?_⟩;have hus:us.length≤fn.ntmps:=by rw[←hp.len];omega
 refine calls_of_wp h1 h2 (wp_mono (hb c h3 w0 S γ w _ hW (by rw[←h5,h.dz];exact nV hp hus)) fun e a' w' hh=>?_);obtain⟨S',γ',f',μ',g1,g2,g3,g4⟩:=hh;have fin:(∃vc junk,bM f' μ' rs=some (vc,r)∧aI vc∧μ'=μ1++junk)→a'.defers=[]∧∃v,(results fn a'.tmps).run C.P w'= .ok v w'∧∃v_1 S' γ',Ending.returned v=Ending.returned v_1∧Ext w S γ w' S' γ'∧Wd C w0 S' γ' μ1 w'∧VR w' S' γ' r v_1:=by
  rintro⟨vc,junk,e1,e2,rfl⟩;obtain⟨u,hu,hv⟩:=kA g2 g3 h4 e1 e2;have hγ:∀b,b<μ1.length→cQ γ' μ1.length b=γ' b:=fun b h=>by simp[cQ,h]
  refine⟨g3.defers.trans h.dz,u,hu,u,S',cQ γ' μ1.length,rfl,⟨g1.stay,fun b e hb=>?_,g1.more,fun b e' hb=>?_,g1.size,g1.frame⟩,g2.drop hm,qZ hγ 3 hr hv⟩
  ·have hbl:b<μ0.length:=by
    apply Classical.byContradiction;intro hn;rw[hW.mem.none b (by omega)]at hb;cases hb
   obtain⟨e',k1,k2,k3⟩:=g1.gh b e hbl hb;exact⟨e',(hγ b (by omega)).trans k1,k2,k3⟩
  unfold cQ at hb;split at hb
  ·exact g1.cbs b e' hb
  cases hb
 cases e with
 |normal=>exact fin g4
 |ret=>exact fin g4
 |_=>exact g4.elim
def aD (P:Program) (fid:FuncId) (own:Nat→Bool):Option (af×List iU×Nat×Bool):=match P.funcs[fid]? with
 |none=>none
 |some fn=>match fn.body with
  |none=>none
  |some c=>match comp P own fn.ntmps c,nU P fn.results.toList with
   |some x,some rs=>some (x,rs,fn.ntmps,eU P fid)
   |_,_=>none
theorem Fn.of {fid:FuncId} {k:Nat} {rs:List iU} {x:af} (h:aD C.P fid own=some (x,rs,n,true)) (hk:(Nat.ble k n&&C.D.isEmpty)=true):Fn C fid own n k rs x:=by
 unfold aD at h;split at h
 ·cases h
 rename_i fn hf;split at h
 ·cases h
 rename_i c hc;split at h
 ·rename_i x' rs' h1 h2;injection h with h;injection h with e1 h;injection h with e2 h;injection h with e3 e4
  subst e1 e2 e3;rw[Bool.and_eq_true]at hk;exact⟨⟨fn,c,hf,hc,h1,h2,rfl,Nat.le_of_ble_eq_true hk.1,e4⟩,List.isEmpty_iff.mp hk.2⟩
 cases h
end
end
section
theorem mV:(IntKind.i64==IntKind.i64)=true:=rfl
theorem rb:(IntKind.u8==IntKind.u8)=true:=rfl
theorem mW:(IntKind.i32==IntKind.i32)=true:=rfl
theorem mX:(IntKind.u64==IntKind.u64)=true:=rfl
theorem kB:dL 0 (.pv .nilsl)=some true:=rfl
theorem kC (n:Nat) (l:List PV):dL 0 (.pv (.sl (n+1) l))=some false:=rfl
theorem iV (a:Addr) (n c:Nat):dL 0 (.pv (.val (.slice (some a) n c)))=some false:=rfl
theorem kD (b g o n:Nat):dL 0 (.ref b g o n)=some false:=rfl
theorem kE:dL 1 (.pv (.val (.map none)))=some true:=rfl
theorem kF (l:List PV):dL 1 (.pv (.mp l))=some false:=rfl
theorem kG (b g:Nat):dL 1 (.map b g)=some false:=rfl
theorem kH:dL 2 (.pv (.val .nilFunc))=some true:=rfl
theorem kI (x:Go.Fn) (y z:Array Value):dL 2 (.pv (.val (.func x y z)))=some false:=rfl
theorem kJ (x:FuncId) (y:List AV):dL 2 (.fn x y)=some false:=rfl
theorem kK (x:FuncId) (y:List AV):dL 2 (.bm x y)=some false:=rfl
theorem kL:dL 3 (.pv (.val (.pointer none)))=some true:=rfl
theorem kM (b g o:Nat):dL 3 (.ptr b g o)=some false:=rfl
theorem kN (l:List PV) (o:Nat):dL 3 (.iptr l o)=some false:=rfl
theorem kO:dL 4 (.pv (.val .nilIface))=some true:=rfl
theorem kP:dL 4 (.pv .iface)=some false:=rfl
theorem iW (a b:Int):oJ 0 (.int .i64 a) (.int .i64 b)=some (a==b):=rfl
theorem iX (a b:Bool):oJ 1 (.bool a) (.bool b)=some (a==b):=rfl
theorem iY (a b:List UInt8):oJ 2 (.str a) (.str b)=some (a==b):=rfl
theorem HR (b:Bool):(true||b)=true:=rfl
theorem HS (b:Bool):(false||b)=b:=rfl
theorem FV (b:Bool):(true&&b)=b:=rfl
theorem HT (b:Bool):(false&&b)=false:=rfl
theorem HU:(!true)=false:=rfl
theorem HV:(!false)=true:=rfl
theorem iZ (m:Nat):qt 0 m=Nat.beq m 0:=rfl
theorem ja (m:Nat):qt 1 m=false:=rfl
theorem jb (m:Nat):qt 2 m=true:=rfl
theorem jc:eI 0 .i64=true:=rfl
theorem jd:eI 1 .i64=false:=rfl
theorem je:eI 0 .u8=false:=rfl
theorem jf:eI 0 .u64=false:=rfl
theorem jg:eI 0 .i32=false:=rfl
theorem jh:eI 0 .u32=false:=rfl
theorem kQ (μ:AM) (p:PV):fD μ depth (.pv p)=some p:=rfl
theorem lS (μ:AM) (d:Nat):∀(l:List PV),dw (fD μ (d+1)) (l.map .pv)=some l
 |[]=>rfl
 |p::r=>by simp only[List.map_cons,dw,lS μ d r];rfl
theorem BQ (μ : AM) (d b g off n : Nat) : fD μ (d + 1) (.ref b g off n) = match μ[b]? with
      | some k => bif !(Nat.beq k.sz 0) && Nat.beq g k.gen && Nat.ble (off + n * k.sz) k.cells.length then
          match dw (fD μ d) ((k.cells.drop off).take (n * k.sz)) with
          | some ps => some (.sl n ps)
          | none => none
        else none
      | none => none := rfl
theorem BR {μ:AM} {d b g off n:Nat} {k:dI} {ps:List PV} (hk:μ[b]?=some k) (hz:Nat.beq k.sz 0=false) (hg:g=k.gen) (hp:(k.cells.drop off).take (n*k.sz)=ps.map .pv) (hb:off+n*k.sz≤k.cells.length):fD μ (d+2) (.ref b g off n)=some (.sl n ps):=by
 subst hg;rw[BQ,hk];simp only[hz,Bool.not_false,Nat.beq_refl,FV,Nat.ble_eq_true_of_le hb,cond_true,hp];rw[lS]
theorem BS (b c:Bool):(bif b then c else false)=(b&&c):=by cases b<;>rfl
theorem EE (b c:Bool):(bif b then true else c)=(b||c):=by cases b<;>rfl
def gN (R:AF→AM→Prop):Option (VC×List Prop×AF×AM)→Prop
 |some (vc,pr,f,μ)=>aI vc∧aP pr∧R f μ
 |none=>False
def fg (free:List (Nat×Nat)) (R:AF→AM→Prop):Option (VC×List Prop×List dt×AF×AM)→Prop
 |some (vc,pr,fs,f,μ)=>aI vc∧aP pr∧eK fs free=true∧R f μ
 |none=>False
def BD (x y:Prop):AV→Prop
 | .pv (.bool t)=>(t=true→x)∧(t=false→y)
 |_=>False
def nW (μ:AM) (r:PV):Option (VC×AV)→Prop
 |some (vc,v)=>aI vc∧fD μ depth v=some r
 |none=>False
def pO (r:AV):Option (VC×AV)→Prop
 |some (vc,v)=>aI vc∧v=r
 |none=>False
section
variable {C:Ctx} {own:Nat→Bool} {n m:Nat} {R:Exit→AF→AM→Prop} {f:AF} {μ:AM}
theorem BU {draw:Bool} (cm:Bool) {al:List bx} (hs:List (Nat×Hint)) (h:gN (R .normal) (cV (ah C) (aA C) cm draw al hs 0 [] [] f μ)):Aw C own n m (.region draw al) R f μ:=by
 unfold gN at h;split at h
 ·rename_i he;exact qX hs he h.1 h.2.1 h.2.2
 exact h.elim
theorem y0 {al:List bx} {free:List (Nat×Nat)} (hs:List (Nat×Hint)) (h:fg free (R .normal) (cA (ah C) (aA C) al hs 0 [] [] [] f μ)):Aw C own n m (.regionF al free) R f μ:=by
 unfold fg at h;split at h
 ·rename_i he;exact vT hs he h.1 h.2.1 h.2.2.1 h.2.2.2
 exact h.elim
theorem FW {o:cn} {x y:af} (h:BD (Aw C own n m x R f μ) (Aw C own n m y R f μ) (ev f o)):Aw C own n m (.cond o x y) R f μ:=by
 unfold BD at h;split at h
 ·rename_i t ht;refine ur ht ?_;cases t with
  |true=>exact h.1 rfl
  |false=>exact h.2 rfl
 exact h.elim
end
theorem bD:(∀n:Nat,Int.ofNat n=(n:Int))∧(∀(n:Nat) (h:n<2 ^ 8),(⟨⟨⟨n,h⟩⟩⟩:UInt8)=UInt8.ofNat n)∧((0:Nat):Int)=0∧((1:Nat):Int)=1:=by
 refine⟨fun _=>rfl,fun n h=>?_,rfl,rfl⟩;simp only[UInt8.ofNat,BitVec.ofNat];congr;exact(Nat.mod_eq_of_lt h).symm
def codeOf (P:Program) (f:FuncId) (own:Nat→Bool):Option af:=(aD P f own).map (·.1)
def af.sub:af→List Nat→af
 | .seq a _,0::l=>a.sub l
 | .seq _ b,_::l=>b.sub l
 | .cond _ a _,0::l=>a.sub l
 | .cond _ _ b,_::l=>b.sub l
 | .block _ a,_::l=>a.sub l
 | .loop a,_::l=>a.sub l
 |x,_=>x
end
section
def fX (μ:AM) (b:Nat) (v:AV):AV:=match v with
 | .ref b' g off n=>bif Nat.beq b' b then (match bI μ (.ref b' g off n) with
  |some p=>.pv p
  |none=>.ref b' g off n) else .ref b' g off n
 | .map b' g=>bif Nat.beq b' b then (match bI μ (.map b' g) with
  |some p=>.pv p
  |none=>.map b' g) else .map b' g
 |v=>v
def re (μ:AM) (b:Nat) (v:AV):AV:=match v with
 | .agg l=>ia (l.map (fX μ b))
 |v=>fX μ b v
def nX (μ:AM) (b:Nat) (f:AF):AF:=f.map fun x=>(x.1,re μ b x.2)
def mG (μ:AM) (b:Nat):AM:=(freeze μ [b]).map fun k=>{k with cells:=k.cells.map (fX μ b)}
section
variable {C:Ctx} {own:Nat→Bool} {n m:Nat} {R:Exit→AF→AM→Prop} {f:AF} {μ:AM} {w0 w:World} {S:Nat→Prop} {γ:Gh}
theorem pZ {T:Nat→Prop} (hW:Wd C w0 S γ μ w) (hE:Ext w S γ w T γ) {b:Nat} {e:sO} (he:γ b=some e) (hT:T e.cb) {v:AV} {u:Value} (hv:VR w S γ v u):VR w T γ (fX μ b v) u:=by
 cases v with
 |ref b' g off n =>
  simp only[fX];cases hb:Nat.beq b' b with
  |false=>exact hv.ext hE
  |true =>
   have:=Nat.eq_of_beq_eq_true hb;subst this;simp only[cond_true];cases ht:bI μ (.ref b' g off n) with
   |none=>exact hv.ext hE
   |some p =>
    refine .pv p u (kn hW hE.stay.set (fun b2 e2 h1 h2=>?_) ht hv);simp only[cz,List.mem_singleton]at h1;subst h1;rw[he]at h2;injection h2 with h2
    subst h2;exact hT
 |map b' g =>
  simp only[fX];cases hb:Nat.beq b' b with
  |false=>exact hv.ext hE
  |true =>
   have:=Nat.eq_of_beq_eq_true hb;subst this;simp only[cond_true];cases ht:bI μ (.map b' g) with
   |none=>exact hv.ext hE
   |some p =>
    refine .pv p u (kn hW hE.stay.set (fun b2 e2 h1 h2=>?_) ht hv);simp only[cz,List.mem_singleton]at h1;subst h1;rw[he]at h2;injection h2 with h2
    subst h2;exact hT
 |_=>exact hv.ext hE
theorem EF {T:Nat→Prop} (hW:Wd C w0 S γ μ w) (hE:Ext w S γ w T γ) {b:Nat} {e:sO} (he:γ b=some e) (hT:T e.cb) {v:AV} {u:Value} (hv:VR w S γ v u):VR w T γ (re μ b v) u:=by
 cases v with
 |agg l =>
  cases hv with
  |agg _ cs hl hat =>
   refine jN ⟨by simpa using hl,fun i p v h1 h2=>?_⟩;rw[List.getElem?_map]at h1;obtain⟨q,hq,rfl⟩:=Option.map_eq_some_iff.mp h1;exact pZ hW hE he hT (hat i q v hq h2)
 |_=>exact pZ hW hE he hT hv
theorem BV (b:Nat) (f:AF) (t:Nat):get (nX μ b f) t=re μ b (get f t):=by
 induction f with
 |nil=>rfl
 |cons x r ih =>
  obtain⟨s,v⟩:=x;show get ((s,re μ b v)::nX μ b r) t=_;simp only[get];cases Nat.beq s t with
  |true=>rfl
  |false=>exact ih
theorem vX (b:Nat) {x:af} (hb:b<μ.length) (h:Aw C own n m x R (nX μ b f) (mG μ b)):Aw C own n m x R f μ:=by
 intro c hc w0 S γ w a hW hF;obtain⟨e,h1,-,-,-,-,-⟩:=hW.mem.Aa (List.getElem?_eq_getElem hb);have hlt:=hW.fY h1;have hE:Ext w S γ w (fun g=>S g∨g=e.cb) γ:=⟨⟨fun _ h=>.inl h,fun _ _=>rfl⟩,fun b e h=>⟨e,h,Nat.le_refl _,fun _=>rfl⟩,fun g hg=>hg.elim .inl fun hg=>.inr (.inl ⟨b,e,h1,hg.symm⟩),fun b e h=>.inl ⟨b,e,h,rfl⟩,Nat.le_refl _,fun _ _ _=>rfl⟩
 obtain⟨hlen,hfr⟩:=jA [b] μ;have hW':Wd C w0 (fun g=>S g∨g=e.cb) γ (mG μ b) w:=by
  refine⟨⟨fun b' k' hk' hz'=>?_,fun b' k' hk' hz'=>?_,fun b' hb'=>hW.mem.none b' (by simp[mG,hlen]at hb';omega),hW.mem.inj⟩,hW.below,fun g hg=>hg.elim (hW.live g) fun hg=>hg▸hlt,hW.env⟩;rotate_left
  ·unfold mG at hk';rw[List.getElem?_map]at hk';obtain⟨k1,hk1,rfl⟩:=Option.map_eq_some_iff.mp hk';obtain⟨k,g1,g2,g3,g4,g5,g6⟩:=hfr b' k1 hk1;obtain⟨e2,q1,q2,q3,⟨es,clock,r1,r2,r3⟩,q8,q9⟩:=hW.mem.mp b' k g1 (by rw[←g4];exact hz');refine⟨e2,q1,by rw[q2];exact g3.symm,by rw[q3];exact g4.symm,⟨es,clock,r1,⟨by simp[g2,r2.len],fun i x v hx hv=>?_⟩,r3⟩,q8,fun hfz hS=>?_⟩
   ·simp only[List.getElem?_map,g2]at hx;obtain⟨y,hy,rfl⟩:=Option.map_eq_some_iff.mp hx;exact pZ hW hE h1 (.inr rfl) (r2.at_ i y v hy hv)
   obtain⟨r1,r2⟩:=g6 hfz;rcases hS with hS|hS
   ·exact q9 r1 hS
   exact r2 (by rw[hW.mem.inj b' b e2 e q1 h1 hS];simp)
  unfold mG at hk';rw[List.getElem?_map]at hk';obtain⟨k1,hk1,rfl⟩:=Option.map_eq_some_iff.mp hk';obtain⟨k,g1,g2,g3,g4,g5,g6⟩:=hfr b' k1 hk1;obtain⟨e2,cs2,q1,q2,q3,q4,q5,q6,q7,q8,q9⟩:=hW.mem.blk b' k g1 (by rw[←g4];exact hz');refine⟨e2,cs2,q1,by rw[q2];exact g3.symm,by rw[q3];exact g4.symm,q4.congr rfl g5 (fun h=>(g6 h).1),q5,by simp[g2];exact q6,fun i x hx=>?_,q8,fun hfz hS=>?_⟩
  ·simp only[List.getElem?_map,g2]at hx;obtain⟨y,hy,rfl⟩:=Option.map_eq_some_iff.mp hx;obtain⟨v,r1,r2,r3⟩:=q7 i y hy;exact⟨v,r1,pZ hW hE h1 (.inr rfl) r2,r3⟩
  obtain⟨r1,r2⟩:=g6 hfz;rcases hS with hS|hS
  ·exact q9 r1 hS
  exact r2 (by rw[hW.mem.inj b' b e2 e q1 h1 hS];simp)
 refine wp_mono (h c hc w0 _ γ w a hW' ⟨hF.size,hF.defers,fun t=>by rw[BV];exact EF hW hE h1 (.inr rfl) (hF.val t)⟩) fun e' a' w' hh=>hh.ext (hE.ue m)
end
end
section
def idxOf:List Nat→Nat→Nat→Option Nat
 |[],_,_=>none
 |c::r,i,b=>bif Nat.beq c b then some i else idxOf r (i+1) b
def fF (au:List Nat):Nat→AV→AV
 |_,.pv p=>.pv p
 |_,.iptr l o=>.iptr l o
 |_,.ref b g o n=>match idxOf au 0 b with
  |some i=>.ref i g o n
  |none=>.any
 |_,.ptr b g o=>match idxOf au 0 b with
  |some i=>.ptr i g o
  |none=>.any
 |_,.map b g=>match idxOf au 0 b with
  |some i=>.map i g
  |none=>.any
 |d+1,.bm f l=>.bm f (l.map (fF au d))
 |d+1,.agg l=>.agg (l.map (fF au d))
 |d+1,.tup l=>.tup (l.map (fF au d))
 |d+1,.fn f l=>.fn f (l.map (fF au d))
 |d+1,.ifb c v=>.ifb c (fF au d v)
 |_,_=>.any
def rh (au:List Nat) (f:AF):AF:=f.map fun x=>(x.1,fF au 3 x.2)
def mY (au:List Nat) (μ:AM) (b:Nat):dI:=match μ[b]? with
 |some k=>{k with cells:=k.cells.map (fF au 3)}
 |none=>⟨[],0,0,0,true⟩
def mZ (au:List Nat) (μ:AM):AM:=au.map (mY au μ)
def xR (au:List Nat) (m len:Nat):Bool:=au.all (fun b=>Nat.blt b len)&&decide au.Nodup&&decide (au.take m=List.range m)
section
variable {C:Ctx} {own:Nat→Bool} {n m:Nat} {R:Exit→AF→AM→Prop} {f:AF} {μ:AM} {w0 w:World} {S:Nat→Prop} {γ:Gh}
theorem mw {b:Nat}:∀{au:List Nat} {i j:Nat},idxOf au i b=some j→i≤j∧au[j-i]?=some b
 |[],_,_,h=>by cases h
 |c::r,i,j,h=>by
  simp only[idxOf]at h;cases hb:Nat.beq c b with
  |true =>
   rw[hb]at h;injection h with h
   subst h;have:=Nat.eq_of_beq_eq_true hb;subst this;exact⟨Nat.le_refl _,by simp⟩
  |false =>
   rw[hb]at h;obtain⟨h1,h2⟩:=mw (au:=r) h;refine⟨by omega,?_⟩;rw[show j-i=(j-(i+1))+1 by omega,List.getElem?_cons_succ];exact h2
def rj (au:List Nat) (γ:Gh):Gh:=fun i=>(au[i]?).bind γ
theorem uw {au:List Nat}:∀(d:Nat) {v:AV} {u:Value},VR w S γ v u→VR w S (rj au γ) (fF au d v) u:=by
 have ref:∀{d b g off k:Nat} {u:Value},VR w S γ (.ref b g off k) u→VR w S (rj au γ) (fF au d (.ref b g off k)) u:=by
  intro d b g off k u h;have he:fF au d (.ref b g off k)=match idxOf au 0 b with|some i=>.ref i g off k|none=>.any:=by cases d<;>rfl
  rw[he];cases hi:idxOf au 0 b with
  |none=>exact .any _
  |some i =>
   cases h with
   |ref _ _ _ _ _ e a c h1 h2 h3 h4=>exact .ref i g off k u e a c (by show(au[i]?).bind γ=some e;rw[show au[i]?=some b by simpa using (mw hi).2];exact h1) h2 h3 h4
 have ptr:∀{d b g off:Nat} {u:Value},VR w S γ (.ptr b g off) u→VR w S (rj au γ) (fF au d (.ptr b g off)) u:=by
  intro d b g off u h;have he:fF au d (.ptr b g off)=match idxOf au 0 b with|some i=>.ptr i g off|none=>.any:=by cases d<;>rfl
  rw[he];cases hi:idxOf au 0 b with
  |none=>exact .any _
  |some i =>
   cases h with
   |ptr _ _ _ _ e a h1 h2 h3 h4=>exact .ptr i g off u e a (by show(au[i]?).bind γ=some e;rw[show au[i]?=some b by simpa using (mw hi).2];exact h1) h2 h3 h4
 have map:∀{d b g:Nat} {u:Value},VR w S γ (.map b g) u→VR w S (rj au γ) (fF au d (.map b g)) u:=by
  intro d b g u h;have he:fF au d (.map b g)=match idxOf au 0 b with|some i=>.map i g|none=>.any:=by cases d<;>rfl
  rw[he];cases hi:idxOf au 0 b with
  |none=>exact .any _
  |some i =>
   cases h with
   |map _ _ _ e r h1 h2 h3 h4=>exact .map i g u e r (by show(au[i]?).bind γ=some e;rw[show au[i]?=some b by simpa using (mw hi).2];exact h1) h2 h3 h4
 intro d;induction d with
 |zero =>
  intro v u h;cases v with
  |pv p=>cases h with|pv _ _ h=>exact .pv p u h
  |map b g=>exact map (d:=0) h
  |ref b g o k=>exact ref (d:=0) h
  |ptr b g o=>exact ptr (d:=0) h
  |iptr l o=>cases h with|iptr _ _ g o' c h1 h2 h3=>exact .iptr l o g o' c h1 h2 h3
  |_=>exact .any _
 |succ d ih =>
  intro v u h;have lst:∀{l:List AV} {cs:List Value},l.length=cs.length→(∀(i:Nat) p v,l[i]?=some p→cs[i]?=some v→VR w S γ p v)→(l.map (fF au d)).length=cs.length∧∀(i:Nat) p v,(l.map (fF au d))[i]?=some p→cs[i]?=some v→VR w S (rj au γ) p v:=fun hl hat=>⟨by simpa using hl,fun i p v h1 h2=>by
   rw[List.getElem?_map]at h1;obtain⟨q,hq,rfl⟩:=Option.map_eq_some_iff.mp h1;exact ih (hat i q v hq h2)⟩
  cases v with
  |pv p=>cases h with|pv _ _ h=>exact .pv p u h
  |ref b g o k=>exact ref (d:=d+1) h
  |ptr b g o=>exact ptr (d:=d+1) h
  |iptr l o=>cases h with|iptr _ _ g o' c h1 h2 h3=>exact .iptr l o g o' c h1 h2 h3
  |agg l=>cases h with|agg _ cs hl hat=>exact .agg _ cs (lst hl hat).1 (lst hl hat).2
  |tup l=>cases h with|tup _ cs hl hat=>exact .tup _ cs (lst hl hat).1 (lst hl hat).2
  |fn g l=>cases h with|fn _ _ cs hl hat=>exact .fn g _ cs (lst hl hat).1 (lst hl hat).2
  |bm g l=>cases h with|bm _ _ cs hl hat=>exact .bm g _ cs (lst hl hat).1 (lst hl hat).2
  |map b g=>exact map (d:=d+1) h
  |ifb c x=>cases h with|ifb _ _ _ h1 h2=>exact .ifb c _ u (fun hc=>ih (h1 hc)) h2
  |_=>exact .any _
theorem BX (au:List Nat) (f:AF) (t:Nat):get (rh au f) t=fF au 3 (get f t):=by
 induction f with
 |nil=>rfl
 |cons x r ih =>
  obtain⟨s,v⟩:=x;show get ((s,fF au 3 v)::rh au r) t=_;simp only[get];cases Nat.beq s t with
  |true=>rfl
  |false=>exact ih
theorem EG (au:List Nat) (hk:xR au m μ.length=true) (hW:Wd C w0 S γ μ w):(∀b,b<m→au[b]?=some b)∧Wd C w0 S (rj au γ) (mZ au μ) w:=by
 simp only[xR,Bool.and_eq_true,decide_eq_true_eq]at hk;obtain⟨⟨hlt,hnd⟩,htk⟩:=hk;have hlt:∀b∈au,b<μ.length:=fun b hb=>Nat.blt_eq.mp (List.all_eq_true.mp hlt b hb)
 have hm:∀b,b<m→au[b]?=some b:=fun b hb=>by
  have h1:(au.take m)[b]?=(List.range m)[b]?:=by rw[htk]
  rw[List.getElem?_take,if_pos hb,List.getElem?_range hb]at h1;exact h1
 refine⟨hm,?_⟩;refine⟨⟨fun i k' hk' hz'=>?_,fun i k' hk' hz'=>?_,fun i hi=>?_,fun i j e e' h1 h2 h3=>?_⟩,hW.below,hW.live,hW.env⟩
 ·unfold mZ at hk';rw[List.getElem?_map]at hk';obtain⟨b,hb,rfl⟩:=Option.map_eq_some_iff.mp hk';have hbl:=hlt b (List.mem_of_getElem? hb);have hr:mY au μ b={μ[b] with cells:=μ[b].cells.map (fF au 3)}:=by simp[mY,List.getElem?_eq_getElem hbl]
  rw[hr]at hz' ⊢;obtain⟨e,cs,q1,q2,q3,q4,q5,q6,q7,q8,q9⟩:=hW.mem.blk b _ (List.getElem?_eq_getElem hbl) hz';refine⟨e,cs,by show(au[i]?).bind γ=some e;rw[hb];exact q1,q2,q3,q4,q5,by simpa using q6,fun j y hy=>?_,q8,q9⟩;simp only[List.getElem?_map]at hy;obtain⟨z,hz,rfl⟩:=Option.map_eq_some_iff.mp hy;obtain⟨v,r1,r2,r3⟩:=q7 j z hz;exact⟨v,r1,uw 3 r2,r3⟩
 ·unfold mZ at hk';rw[List.getElem?_map]at hk';obtain⟨b,hb,rfl⟩:=Option.map_eq_some_iff.mp hk';have hbl:=hlt b (List.mem_of_getElem? hb);have hr:mY au μ b={μ[b] with cells:=μ[b].cells.map (fF au 3)}:=by simp[mY,List.getElem?_eq_getElem hbl]
  rw[hr]at hz' ⊢;obtain⟨e,q1,q2,q3,⟨es,clock,r1,r2,r3⟩,q8,q9⟩:=hW.mem.mp b _ (List.getElem?_eq_getElem hbl) hz';refine⟨e,by show(au[i]?).bind γ=some e;rw[hb];exact q1,q2,q3,⟨es,clock,r1,⟨by simp[r2.len],fun j y v hy hv=>?_⟩,r3⟩,q8,q9⟩;simp only[List.getElem?_map]at hy;obtain⟨z,hz,rfl⟩:=Option.map_eq_some_iff.mp hy;exact uw 3 (r2.at_ j z v hz hv)
 ·show(au[i]?).bind γ=none;rw[List.getElem?_eq_none (by simpa [mZ]using hi)];rfl
 simp only[rj]at h1 h2;obtain⟨b1,g1,g2⟩:=Option.bind_eq_some_iff.mp h1;obtain⟨b2,g3,g4⟩:=Option.bind_eq_some_iff.mp h2;have:=hW.mem.inj b1 b2 e e' g2 g4 h3;subst this;have hi:=(List.getElem?_eq_some_iff.mp g1).1;exact(List.getElem?_inj hi hnd).mp (g1.trans g3.symm)
theorem BY (au:List Nat) (hm:∀b,b<m→au[b]?=some b) {w':World} {S':Nat→Prop} {γ':Gh} (g1:fH m w S (rj au γ) w' S' γ'):fH m w S γ w' S' γ':=by
 have hsub:∀i e,rj au γ i=some e→∃b,γ b=some e:=fun i e h=>by
  obtain⟨b,_,h2⟩:=Option.bind_eq_some_iff.mp h;exact⟨b,h2⟩
 refine⟨g1.stay,fun b e hb he=>g1.gh b e hb (by show(au[b]?).bind γ=some e;rw[hm b hb];exact he),fun g hg=>?_,fun b e' hb=>?_,g1.size,fun g hg hn=>g1.frame g hg fun i e h=>by obtain⟨b,hb⟩:=hsub i e h;exact hn b e hb⟩
 ·rcases g1.more g hg with h|⟨i,e,h1,h2⟩|h
  ·exact .inl h
  ·obtain⟨b,hb⟩:=hsub i e h1;exact .inr (.inl ⟨b,e,hb,h2⟩)
  exact .inr (.inr h)
 rcases g1.cbs b e' hb with⟨i,e,h1,h2⟩|h
 ·obtain⟨b0,hb0⟩:=hsub i e h1;exact .inl ⟨b0,e,hb0,h2⟩
 exact .inr h
theorem EH {D:List Deferred} {a:Act} (au:List Nat) (hF:FR D n w S γ f a):FR D n w S (rj au γ) (rh au f) a:=⟨hF.size,hF.defers,fun t=>by rw[BX];exact uw 3 (hF.val t)⟩
theorem p7 (au:List Nat) {x:af} (hk:xR au m μ.length=true) (h:Aw C own n m x R (rh au f) (mZ au μ)):Aw C own n m x R f μ:=by
 intro c hc w0 S γ w a hW hF;obtain⟨hm,hW'⟩:=EG au hk hW;refine wp_mono (h c hc w0 S (rj au γ) w a hW' (EH au hF)) fun e a' w' hh=>?_
 obtain⟨S',γ',f',μ',g1,g2,g3,g4⟩:=hh;exact⟨S',γ',f',μ',BY au hm g1,g2,g3,g4⟩
end
end
section
abbrev vn:=List (FuncId×(List PV→Option PV))
def look:vn→FuncId→List PV→Option PV
 |[],_,_=>none
 |(g,s)::r,f,ps=>bif Nat.beq g f then s ps else look r f ps
def fO (T:vn) (h:Hint) (μ:AM) (g:FuncId) (as:List AV):Hint:=match gI μ as with
 |some ps=>match look T g ps with
  |some r=>{h with val:=some (.pv r)}
  |none=>h
 |none=>h
def eN (T:vn) (h:Hint) (f:AF) (μ:AM) (k:K):Hint:=match h.val with
 |some _=>h
 |none=>match k with
  | .call g as=>fO T h μ g (as.map (ev f))
  | .callv x as=>match ev f x with
   | .fn g caps=>fO T h μ g (as.map (ev f)++caps)
   | .bm g first=>fO T h μ g (first++as.map (ev f))
   | .pv (.val (.func (.func g) ⟨[]⟩ ⟨[]⟩))=>fO T h μ g (as.map (ev f))
   |_=>h
  |_=>h
def eO (H:List (Nat×Hint)):Option Nat→Hint
 |some d=>bF H d
 |none=>{}
def strip (cm:Bool) (f:AF) (k:K):AF:=bif cm then aN f (tmpsOf k) else f
def gx (X:FuncId→List PV→PV→Prop) (Y:FuncId→List AV→AM→AV→AM→Prop) (T:vn) (H:List (Nat×Hint)) (cm dr:Bool):List bx→VC→List Prop→AF→AM→Option (VC×List Prop×AF×AM)
 |[],vc,pr,f,μ=>some (vc,pr,f,μ)
 |o::os,vc,pr,f,μ=>match ff X Y cm dr f μ o (eN T (eO H o.dst) (strip cm f o.k) μ o.k) with
  |some (vc',pr',f',μ')=>gx X Y T H cm dr os (vc'++vc) (pr'++pr) f' μ'
  |none=>none
def fa (X:FuncId→List PV→PV→Prop) (Y:FuncId→List AV→AM→AV→AM→Prop) (T:vn) (H:List (Nat×Hint)):List bx→VC→List Prop→List dt→AF→AM→Option (VC×List Prop×List dt×AF×AM)
 |[],vc,pr,fs,f,μ=>some (vc,pr,fs,f,μ)
 |o::os,vc,pr,fs,f,μ=>match ff X Y true true f μ o (eN T (eO H o.dst) (strip true f o.k) μ o.k) with
  |some (vc',pr',f',μ')=>fa X Y T H os (vc'++vc) (pr'++pr) (fs++[aV μ (aN f (tmpsOf o.k)) (eN T (eO H o.dst) (strip true f o.k) μ o.k) o.k]) f' μ'
  |none=>none
section
variable {X:FuncId→List PV→PV→Prop} {Y:FuncId→List AV→AM→AV→AM→Prop}
theorem jF {cm dr:Bool} {hs hs':List (Nat×Hint)}:∀(al:List bx) (i:Nat) (vc:VC) (pr:List Prop) (f:AF) (μ:AM),(∀j,i≤j→bF hs j=bF hs' j)→cV X Y cm dr al hs i vc pr f μ=cV X Y cm dr al hs' i vc pr f μ
 |[],_,_,_,_,_,_=>rfl
 |o::os,i,vc,pr,f,μ,h=>by
  simp only[cV];rw[h i (Nat.le_refl _)];split
  ·exact jF os (i+1) _ _ _ _ fun j hj=>h j (by omega)
  rfl
theorem iu {hs hs':List (Nat×Hint)}:∀(al:List bx) (i:Nat) (vc:VC) (pr:List Prop) (fs:List dt) (f:AF) (μ:AM),(∀j,i≤j→bF hs j=bF hs' j)→cA X Y al hs i vc pr fs f μ=cA X Y al hs' i vc pr fs f μ
 |[],_,_,_,_,_,_,_=>rfl
 |o::os,i,vc,pr,fs,f,μ,h=>by
  simp only[cA];rw[h i (Nat.le_refl _)];split
  ·exact iu os (i+1) _ _ _ _ _ fun j hj=>h j (by omega)
  rfl
theorem dA {i j:Nat} {h:Hint} {hs:List (Nat×Hint)} (hij:i≠j):bF ((i,h)::hs) j=bF hs j:=by
 simp only[bF];have:Nat.beq i j=false:=by
  rw[Bool.eq_false_iff];exact fun hb=>hij (Nat.eq_of_beq_eq_true hb)
 rw[this,cond_false]
theorem bZ {i:Nat} {h:Hint} {hs:List (Nat×Hint)}:bF ((i,h)::hs) i=h:=by
 simp only[bF,Nat.beq_refl,cond_true]
theorem kR {T:vn} {H:List (Nat×Hint)} {cm dr:Bool}:∀(al:List bx) (i:Nat) (vc:VC) (pr:List Prop) (f:AF) (μ:AM),∃hs,gx X Y T H cm dr al vc pr f μ=cV X Y cm dr al hs i vc pr f μ
 |[],_,_,_,_,_=>⟨[],rfl⟩
 |o::os,i,vc,pr,f,μ=>by
  cases he:ff X Y cm dr f μ o (eN T (eO H o.dst) (strip cm f o.k) μ o.k) with
  |none=>exact⟨[(i,eN T (eO H o.dst) (strip cm f o.k) μ o.k)],by simp only[gx,cV,bZ,he]⟩
  |some q =>
   obtain⟨vc',pr',f',μ'⟩:=q;obtain⟨hs,h⟩:=kR (T:=T) (H:=H) (cm:=cm) (dr:=dr) os (i+1) (vc'++vc) (pr'++pr) f' μ';refine⟨(i,eN T (eO H o.dst) (strip cm f o.k) μ o.k)::hs,?_⟩;simp only[gx,cV,bZ,he];rw[h];exact jF os (i+1) _ _ _ _ fun j hj=>(dA (by omega)).symm
theorem ji {T:vn} {H:List (Nat×Hint)}:∀(al:List bx) (i:Nat) (vc:VC) (pr:List Prop) (fs:List dt) (f:AF) (μ:AM),∃hs,fa X Y T H al vc pr fs f μ=cA X Y al hs i vc pr fs f μ
 |[],_,_,_,_,_,_=>⟨[],rfl⟩
 |o::os,i,vc,pr,fs,f,μ=>by
  cases he:ff X Y true true f μ o (eN T (eO H o.dst) (strip true f o.k) μ o.k) with
  |none=>exact⟨[(i,eN T (eO H o.dst) (strip true f o.k) μ o.k)],by simp only[fa,cA,bZ,he]⟩
  |some q =>
   obtain⟨vc',pr',f',μ'⟩:=q;obtain⟨hs,h⟩:=ji (T:=T) (H:=H) os (i+1) (vc'++vc) (pr'++pr) (fs++[aV μ (aN f (tmpsOf o.k)) (eN T (eO H o.dst) (strip true f o.k) μ o.k) o.k]) f' μ';refine⟨(i,eN T (eO H o.dst) (strip true f o.k) μ o.k)::hs,?_⟩;simp only[fa,cA,bZ,he];rw[h];exact iu os (i+1) _ _ _ _ _ fun j hj=>(dA (by omega)).symm
end
def guarded:List bx→Bool
 |[]=>false
 |o::r=>match o.guard with
  |some _=>true
  |none=>guarded r
def ux (C:Ctx) (own:Nat→Bool) (n m:Nat) (T:vn) (H:List (Nat×Hint)):af→(Exit→AF→AM→Prop)→AF→AM→Prop
 | .skip,R,f,μ=>R .normal f μ
 | .region draw al,R,f,μ=>gN (R .normal) (gx (ah C) (aA C) T H (guarded al) draw al [] [] f μ)
 | .regionF al free,R,f,μ=>fg free (R .normal) (fa (ah C) (aA C) T H al [] [] [] f μ)
 | .seq a b,R,f,μ=>ux C own n m T H a (eb (fun f μ=>ux C own n m T H b R f μ) R) f μ
 | .cond o x y,R,f,μ=>BD (ux C own n m T H x R f μ) (ux C own n m T H y R f μ) (ev f o)
 | .block id x,R,f,μ=>ux C own n m T H x (ec id R) f μ
 | .loop x,R,f,μ=>Aw C own n m (.loop x) R f μ
 | .exit id,R,f,μ=>R (.exit id) f μ
 | .ret,R,f,μ=>R .ret f μ
 | .range _ _ _ _,_,_,_=>False
 | .stuck,_,_,_=>False
 | .raw x,R,f,μ=>Aw C own n m (.raw x) R f μ
 | .tab p t s,R,f,μ=>Aw C own n m (.tab p t s) R f μ
def uy (C:Ctx) (own:Nat→Bool) (n m:Nat) (T:vn) (H:List (Nat×Hint)):af→(Exit→AF→AM→Prop)→AF→AM→Prop
 | .skip,R,f,μ=>R .normal f μ
 | .region draw al,R,f,μ=>gN (R .normal) (gx (ah C) (aA C) T H (guarded al) draw al [] [] f μ)
 | .regionF al free,R,f,μ=>fg free (R .normal) (fa (ah C) (aA C) T H al [] [] [] f μ)
 | .seq a b,R,f,μ=>uy C own n m T H a (eb (fun f μ=>Aw C own n m b R f μ) R) f μ
 | .cond o x y,R,f,μ=>BD (Aw C own n m x R f μ) (Aw C own n m y R f μ) (ev f o)
 | .block id x,R,f,μ=>uy C own n m T H x (ec id R) f μ
 | .loop x,R,f,μ=>Aw C own n m (.loop x) R f μ
 | .exit id,R,f,μ=>R (.exit id) f μ
 | .ret,R,f,μ=>R .ret f μ
 | .range _ _ _ _,_,_,_=>False
 | .stuck,_,_,_=>False
 | .raw x,R,f,μ=>Aw C own n m (.raw x) R f μ
 | .tab p t s,R,f,μ=>Aw C own n m (.tab p t s) R f μ
section
variable {C:Ctx} {own:Nat→Bool} {n m:Nat} {R:Exit→AF→AM→Prop} {f:AF} {μ:AM} {T:vn} {H:List (Nat×Hint)}
theorem lT:∀{x:af} {R:Exit→AF→AM→Prop} {f:AF} {μ:AM},ux C own n m T H x R f μ→Aw C own n m x R f μ
 | .skip,_,_,_,h=>uq h
 | .region draw al,_,f,μ,h=>by
  obtain⟨hs,he⟩:=kR (X:=ah C) (Y:=aA C) (T:=T) (H:=H) (cm:=guarded al) (dr:=draw) al 0 [] [] f μ;simp only[ux]at h;rw[he]at h;exact BU _ hs h
 | .regionF al free,_,f,μ,h=>by
  obtain⟨hs,he⟩:=ji (X:=ah C) (Y:=aA C) (T:=T) (H:=H) al 0 [] [] [] f μ;simp only[ux]at h;rw[he]at h;exact y0 hs h
 | .seq a b,R,_,_,h=>by
  simp only[ux]at h;refine cK (dE (lT h) fun e f μ he=>?_);cases e with
  |normal=>exact lT he
  |_=>exact he
 | .cond o x y,R,f,_,h=>by
  refine FW ?_;simp only[ux]at h;unfold BD at h ⊢;split at h
  ·exact⟨fun ht=>lT (h.1 ht),fun ht=>lT (h.2 ht)⟩
  exact h.elim
 | .block id x,_,_,_,h=>qY (lT h)
 | .loop x,_,_,_,h=>h
 | .exit id,_,_,_,h=>uu h
 | .ret,_,_,_,h=>xP h
 | .range _ _ _ _,_,_,_,h=>by simp only[ux]at h
 | .stuck,_,_,_,h=>by simp only[ux]at h
 | .raw x,_,_,_,h=>h
 | .tab p t s,_,_,_,h=>h
theorem oV:∀{x:af} {R:Exit→AF→AM→Prop} {f:AF} {μ:AM},uy C own n m T H x R f μ→Aw C own n m x R f μ
 | .skip,_,_,_,h=>uq h
 | .region draw al,_,f,μ,h=>by
  obtain⟨hs,he⟩:=kR (X:=ah C) (Y:=aA C) (T:=T) (H:=H) (cm:=guarded al) (dr:=draw) al 0 [] [] f μ;simp only[uy]at h;rw[he]at h;exact BU _ hs h
 | .regionF al free,_,f,μ,h=>by
  obtain⟨hs,he⟩:=ji (X:=ah C) (Y:=aA C) (T:=T) (H:=H) al 0 [] [] [] f μ;simp only[uy]at h;rw[he]at h;exact y0 hs h
 | .seq a b,R,_,_,h=>by
  simp only[uy]at h;exact cK (oV h)
 | .cond o x y,R,f,_,h=>FW h
 | .block id x,_,_,_,h=>qY (oV h)
 | .loop x,_,_,_,h=>h
 | .exit id,_,_,_,h=>uu h
 | .ret,_,_,_,h=>xP h
 | .range _ _ _ _,_,_,_,h=>by simp only[uy]at h
 | .stuck,_,_,_,h=>by simp only[uy]at h
 | .raw x,_,_,_,h=>h
 | .tab p t s,_,_,_,h=>h
theorem jj {x:af} (N:Nat) (F:Nat→AF) (M:Nat→AM) (hs:Sub (F 0) f) (hm:μ=M 0)
  (step:∀k,k≤N→Aw C own n m x (eb (fun f' μ'=>k<N∧Sub (F (k+1)) f'∧μ'=M (k+1)) R) (F k) (M k)):Aw C own n m (.loop x) R f μ:=by
 refine pX (fun j f μ=>∃k,k≤N∧j=N-k∧Sub (F k) f∧μ=M k) ?_ N ⟨0,Nat.zero_le _,rfl,hs,hm⟩;rintro j f μ ⟨k,hk,rfl,hf,rfl⟩;refine dy _ hf (dE (step k hk) fun e f μ he=>?_);cases e with
 |normal =>
  obtain⟨h1,h2,h3⟩:=he;exact⟨N-(k+1),by omega,k+1,h1,rfl,h2,h3⟩
 |_=>exact he
theorem aE (μ:AM) (x:dI):(μ++[x])[μ.length]?=some x:=by simp
theorem mem_set (μ:AM) (x y:dI):(μ++[x]).set μ.length y=μ++[y]:=by simp
theorem aF (μ:AM) (x y:dI):(μ++[x]++[y])[μ.length]?=some x:=by simp
theorem aw (μ:AM) (x y:dI):(μ++[x]++[y])[μ.length+1]?=some y:=by
 rw[List.getElem?_append_right (by simp)];simp
theorem ax (μ:AM) (x y z:dI):(μ++[x]++[y]).set μ.length z=μ++[z]++[y]:=by
 rw[List.set_append_left _ _ (by simp)];simp
theorem ay (μ:AM) (x y z:dI):(μ++[x]++[y]).set (μ.length+1) z=μ++[x]++[z]:=by
 rw[List.set_append_right _ _ (by simp)];simp
theorem aL (μ:AM) (x:dI):(μ++[x]).length=μ.length+1:=by simp
def nY (rs:List iU) (r:PV):Exit→AF→AM→Prop:=fun e f μ=>match e with
 | .normal| .ret=>nW μ r (bM f μ rs)
 |_=>False
def pA (rs:List iU) (r:AV) (μ0:AM):Exit→AF→AM→Prop:=fun e f μ=>match e with
 | .normal| .ret=>pO r (bM f μ rs)∧∃junk,μ=μ0++junk
 |_=>False
theorem aj {fid:FuncId} {k:Nat} {rs:List iU} {x:af} {ps:List PV} {r:PV} (h:Fn C fid own n k rs x) (hk:ps.length=k) (hb:Aw C own n 0 x (nY rs r) (jR 0 (ps.map .pv)) []):ah C fid ps r:=by
 refine Ap h hk (dE hb fun e f μ he=>?_);have:nW μ r (bM f μ rs)→∃vc v,bM f μ rs=some (vc,v)∧aI vc∧fD μ depth v=some r:=fun h=>by
  unfold nW at h;split at h
  ·rename_i vc v hv;exact⟨vc,v,hv,h.1,h.2⟩
  exact h.elim
 cases e with
 |normal=>exact this he
 |ret=>exact this he
 |_=>exact he
theorem aH {fid:FuncId} {k:Nat} {rs:List iU} {x:af} {as:List AV} {r:AV} {μ0 μ1:AM} (h:Fn C fid own n k rs x) (hk:as.length=k) (hl:μ0.length≤μ1.length) (hr:cC 3 μ1.length r=true) (hm:aY μ1 μ1.length=true)
  (hb:Aw C own n μ0.length x (pA rs r μ1) (jR 0 as) μ0):aA C fid as μ0 r μ1:=by
 refine BP h hk hl hr hm (dE hb fun e f μ he=>?_);have:(pO r (bM f μ rs)∧∃junk,μ=μ1++junk)→∃vc junk,bM f μ rs=some (vc,r)∧aI vc∧μ=μ1++junk:=fun h=>by
  obtain⟨h,junk,hj⟩:=h;unfold pO at h;split at h
  ·rename_i vc v hv;exact⟨vc,junk,by rw[hv,h.2],h.1,hj⟩
  exact h.elim
 cases e with
 |normal=>exact this he
 |ret=>exact this he
 |_=>exact he
end
theorem vb:(aI []=True)∧(∀a b l,aI ((a,b)::l)=(a≤b∧aI l))∧ub= -9223372036854775808∧lE=9223372036854775807∧(aP []=True)∧(∀p l,aP (p::l)=(p∧aP l)) :=
 ⟨rfl,fun _ _ _=>rfl,rfl,rfl,rfl,fun _ _=>rfl⟩
theorem lb:(∀(α β:Type) (f:α→β) (l:List α),(l.map f).length=l.length)∧(∀(α:Type) (a:α) (l:List α),(a::l).length=l.length+1)∧(∀(α:Type),([]:List α).length=0)∧(∀(α:Type) (l m:List α),(l++m).length=l.length+m.length) :=
 ⟨fun _ _ f l=>List.length_map f,fun _ _ _=>rfl,fun _=>rfl,fun _ _ _=>List.length_append⟩
theorem bn:(∀b c,(bif b then c else false)=(b&&c))∧(∀b c,(bif b then true else c)=(b||c))∧(∀a b:Bool,((a||b)=true)=(a=true∨b=true))∧(∀a b:Bool,((a||b)=false)=(a=false∧b=false))∧(∀a b:Bool,((a&&b)=true)=(a=true∧b=true))∧(∀a b:Bool,((a&&b)=false)=(a=false∨b=false))∧(∀b:Bool,(¬b=false)=(b=true)) ∧
  (∀(α:Type) [BEq α] [LawfulBEq α] (a b:α),((a==b)=true)=(a=b))∧(∀(α:Type) [BEq α] [LawfulBEq α] (a b:α),((a != b)=true)=¬a=b)∧(∀(α:Type) [BEq α] [LawfulBEq α] (a b:α),((a==b)=false)=¬a=b)∧(∀(α:Type) [BEq α] [LawfulBEq α] (a b:α),((a != b)=false)=(a=b)) ∧
  (∀(p:Prop) [Decidable p],(decide p=true)=p)∧(∀(p:Prop) [Decidable p],(decide p=false)=¬p)∧(∀a b:Bool,((!a)=b)=(a= !b))∧(!true)=false∧(!false)=true∧(∀(α:Type) (a b:α),(a≠b)=¬a=b):=by
 refine⟨BS,EE,?_,?_,?_,fun a b=>by cases a<;>cases b<;>simp,?_,?_,?_,?_,?_,?_,?_,?_,rfl,rfl,fun _ _ _=>rfl⟩<;>intros<;>simp
theorem ab:(∀n:Nat,(n:Int).toNat=n)∧(∀n:Nat,n*1=n)∧(∀n:Nat,n+0=n)∧(∀n:Nat,0+n=n) :=
 ⟨Int.toNat_natCast,Nat.mul_one,Nat.add_zero,Nat.zero_add⟩
section
variable {C:Ctx} {own:Nat→Bool} {n m:Nat} {x:af} {R:Exit→AF→AM→Prop} {f:AF} {μ:AM}
theorem bJ (h:uy C own n m [] [] x R f μ):Aw C own n m x R f μ:=oV h
theorem lA (T:vn) (h:uy C own n m T [] x R f μ):Aw C own n m x R f μ:=oV h
theorem cu (H:List (Nat×Hint)) (h:uy C own n m [] H x R f μ):Aw C own n m x R f μ:=oV h
theorem dS (T:vn) (H:List (Nat×Hint)) (h:uy C own n m T H x R f μ):Aw C own n m x R f μ:=oV h
theorem aZ (h:Aw C own n m (.loop x) R f μ):Aw C own n m (.loop x) R f μ:=h
end
theorem ba {a:List (Int×Int)} {b:List Prop} {t:Bool} {P:Prop} (h1:aI a) (h2:aP b) (h3:t=true) (h4:P):aI a∧aP b∧t=true∧P:=⟨h1,h2,h3,h4⟩
theorem bb {a:List (Int×Int)} {b:List Prop} {P:Prop} (h1:aI a) (h2:aP b) (h3:P):aI a∧aP b∧P:=⟨h1,h2,h3⟩
theorem bf {a:List (Int×Int)} {P:Prop} (h1:aI a) (h3:P):aI a∧P:=⟨h1,h3⟩
theorem bg {t:Bool} {P Q:Prop} (h:t=true→P) (k:t=false→Q):(t=true→P)∧(t=false→Q):=⟨h,k⟩
end
section
def CW (a b:AV):Prop:=∀(w:World) (S:Nat→Prop) (γ:Gh) (v:Value),VR w S γ a v→VR w S γ b v
theorem CW.refl (a:AV):CW a a:=fun _ _ _ _ h=>h
theorem CW.any (a:AV):CW a .any:=fun _ _ _ _ _=>.any _
theorem CW.nil:CW (.pv .nilsl) (.pv (.sl 0 [])):=fun _ _ _ v h=>by
 cases h with
 |pv _ _ h=>cases h;exact .pv _ _ .sl0
structure BW (k k':dI):Prop where
 cells:PW CW k.cells k'.cells
 gen:k'.gen=k.gen
 sz:k'.sz=k.sz
 elem:k'.elem=k.elem
 frozen:k'.frozen=k.frozen
abbrev MW (μ μ':AM):Prop:=PW BW μ μ'
theorem PW.refl {α:Type} {R:α→α→Prop} (hr:∀a,R a a) (l:List α):PW R l l:=⟨rfl,fun i a b h1 h2=>by rw[h1]at h2;injection h2 with h2;subst h2;exact hr a⟩
theorem PW.nil {α β:Type} {R:α→β→Prop}:PW R [] []:=⟨rfl,fun i a b h=>by simp at h⟩
theorem PW.cons {α β:Type} {R:α→β→Prop} {a:α} {b:β} {l:List α} {m:List β} (h:R a b) (ht:PW R l m):PW R (a::l) (b::m) :=
 ⟨by simp[ht.len],fun i x y hx hy=>by
  cases i with
  |zero=>simp at hx hy;subst hx hy;exact h
  |succ i=>exact ht.at_ i x y (by simpa using hx) (by simpa using hy)⟩
theorem BW.refl (k:dI):BW k k:=⟨PW.refl CW.refl _,rfl,rfl,rfl,rfl⟩
theorem MW.refl (μ:AM):MW μ μ:=PW.refl BW.refl μ
section
variable {C:Ctx} {own:Nat→Bool} {n n' m:Nat} {R:Exit→AF→AM→Prop} {f:AF} {μ:AM} {w0 w:World} {S:Nat→Prop} {γ:Gh}
theorem Wd.KI {μ':AM} (hW:Wd C w0 S γ μ w) (h:MW μ μ'):Wd C w0 S γ μ' w:=by
 have get:∀{b:Nat} {k':dI},μ'[b]?=some k'→∃k,μ[b]?=some k∧BW k k':=fun {b k'} hk=>by
  have hb:b<μ.length:=by rw[h.len];exact(List.getElem?_eq_some_iff.mp hk).1
  exact⟨μ[b],List.getElem?_eq_getElem hb,h.at_ b _ _ (List.getElem?_eq_getElem hb) hk⟩
 refine⟨⟨fun b k' hk hz=>?_,fun b k' hk hz=>?_,fun b hb=>hW.mem.none b (by rw[h.len];exact hb),hW.mem.inj⟩,hW.below,hW.live,hW.env⟩
 ·obtain⟨k,hk0,hb⟩:=get hk;obtain⟨e,cs,h1,h2,h3,h4,h5,h6,h7,h8,h9⟩:=hW.mem.blk b k hk0 (by rw[←hb.sz];exact hz);refine⟨e,cs,h1,by rw[hb.gen];exact h2,by rw[hb.sz];exact h3,h4.congr rfl hb.elem (fun h=>by rw[←hb.frozen];exact h),h5,by rw[←hb.cells.len];exact h6,fun i a ha=>?_,h8,fun hf=>h9 (by rw[←hb.frozen];exact hf)⟩;have hi:i<k.cells.length:=by rw[hb.cells.len];exact(List.getElem?_eq_some_iff.mp ha).1
  obtain⟨v,g1,g2,g3⟩:=h7 i _ (List.getElem?_eq_getElem hi);exact⟨v,g1,hb.cells.at_ i _ a (List.getElem?_eq_getElem hi) ha w S γ v g2,g3⟩
 obtain⟨k,hk0,hb⟩:=get hk;obtain⟨e,h1,h2,h3,⟨es,clock,q1,q2,q3⟩,h5,h6⟩:=hW.mem.mp b k hk0 (by rw[←hb.sz];exact hz);refine⟨e,h1,by rw[hb.gen];exact h2,by rw[hb.sz];exact h3,⟨es,clock,q1,⟨by rw[←hb.cells.len];exact q2.len,fun i a v ha hv=>?_⟩,q3⟩,h5,fun hf=>h6 (by rw[←hb.frozen];exact hf)⟩;have hi:i<k.cells.length:=by rw[hb.cells.len];exact(List.getElem?_eq_some_iff.mp ha).1
 exact hb.cells.at_ i _ a (List.getElem?_eq_getElem hi) ha w S γ v (q2.at_ i _ v (List.getElem?_eq_getElem hi) hv)
theorem y4 {μ':AM} {x:af} (h:MW μ μ') (hx:Aw C own n m x R f μ'):Aw C own n m x R f μ :=
 fun c hc w0 S γ w a hW hF=>hx c hc w0 S γ w a (hW.KI h) hF
theorem y5 {m b d:Nat} {v:AV} (hb:cC d m v=true) (hm:m≤b) (M:AM):fX M b v=v:=by
 have ne:∀{c:Nat},Nat.blt c m=true→Nat.beq c b=false:=fun {c} h=>by
  have:=Nat.blt_eq.mp h;rw[Bool.eq_false_iff];exact fun h2=>by have:=Nat.eq_of_beq_eq_true h2;omega
 cases v with
 |ref c g o n=>cases d<;>(simp only[fX];rw[ne hb];rfl)
 |map c g=>cases d<;>(simp only[fX];rw[ne hb];rfl)
 |_=>rfl
end
end
section
theorem iI {μ:AM} {d b g n m:Nat} {k:dI} {ps:List PV} (hk:μ[b]?=some k) (hz:Nat.beq k.sz 0=false) (hg:g=k.gen) (hc:k.cells=ps.map .pv) (hn:m=n) (hl:ps.length=n*k.sz):fD μ (d+2) (.ref b g 0 m)=some (.sl n ps):=by
 subst hn;refine BR hk hz hg ?_ (by rw[hc];simp[hl]);rw[hc,List.drop_zero,List.take_of_length_le (by simp[hl])]
section
variable {C:Ctx} {own:Nat→Bool} {n m:Nat} {R:Exit→AF→AM→Prop} {f:AF} {μ:AM}
theorem vY {σ:Type} {x:af} (P:σ→Prop) (F:σ→AF) (M:σ→AM) (ms:σ→Nat) (s0:σ) (h0:P s0) (hs:Sub (F s0) f) (hm:μ=M s0)
  (step:∀s,P s→Aw C own n m x (eb (fun f' μ'=>∃s',ms s'<ms s∧P s'∧Sub (F s') f'∧μ'=M s') R) (F s) (M s)):Aw C own n m (.loop x) R f μ:=by
 refine pX (fun j f μ=>∃s,j=ms s∧P s∧Sub (F s) f∧μ=M s) ?_ (ms s0) ⟨s0,rfl,h0,hs,hm⟩;rintro j f μ ⟨s,rfl,hp,hf,rfl⟩;refine dy _ hf (dE (step s hp) fun e f μ he=>?_);cases e with
 |normal =>
  obtain⟨s',h1,h2,h3,h4⟩:=he;exact⟨ms s',h1,s',rfl,h2,h3,h4⟩
 |_=>exact he
theorem lU {σ:Type} {x:af} (P:σ→Prop) (F:σ→AF) (M:σ→AM) (ms:σ→Nat) (s0:σ) (h0:P s0) (hs:Sub (F s0) f) (hm:∃junk,μ=M s0++junk)
  (hok:∀s,P s→m≤(M s).length∧mu (F s) (M s).length=true∧aY (M s) (M s).length=true)
  (step:∀s,P s→Aw C own n m x (eb (fun f' μ'=>∃s',ms s'<ms s∧P s'∧Sub (F s') f'∧∃junk,μ'=M s'++junk) R) (F s) (M s)):Aw C own n m (.loop x) R f μ:=by
 refine pX (fun j f μ=>∃s,j=ms s∧P s∧Sub (F s) f∧∃junk,μ=M s++junk) ?_ (ms s0) ⟨s0,rfl,h0,hs,hm⟩;rintro j f μ ⟨s,rfl,hp,hf,junk,rfl⟩;obtain⟨o1,o2,o3⟩:=hok s hp;refine dy _ hf (yY o1 o2 o3 (dE (step s hp) fun e f μ he=>?_));cases e with
 |normal =>
  obtain⟨s',h1,h2,h3,h4⟩:=he;exact⟨ms s',h1,s',rfl,h2,h3,h4⟩
 |_=>exact he
theorem de {x:af} (N:Nat) (P:Nat→Prop) (F:Nat→AF) (M:Nat→AM) (h0:P 0) (hs:Sub (F 0) f) (hm:∃junk,μ=M 0++junk)
  (hok:∀k,m≤(M k).length∧mu (F k) (M k).length=true∧aY (M k) (M k).length=true)
  (step:∀k,k≤N→P k→Aw C own n m x (eb (fun f' μ'=>k<N∧P (k+1)∧Sub (F (k+1)) f'∧∃junk,μ'=M (k+1)++junk) R) (F k) (M k)):Aw C own n m (.loop x) R f μ:=by
 refine lU (fun k:Nat=>k≤N∧P k) F M (fun k=>N-k) 0 ⟨Nat.zero_le _,h0⟩ hs hm (fun k _=>hok k) fun k hk=>?_
 refine dE (step k hk.1 hk.2) fun e f μ he=>?_
 cases e with
 |normal =>
  obtain⟨h1,h2,h3,h4⟩:=he;exact⟨k+1,by omega,⟨h1,h2⟩,h3,h4⟩
 |_=>exact he
end
end
section
section
variable {C:Ctx} {w0 w:World} {S:Nat→Prop} {γ:Gh} {μ:AM} {f:AF} {a:Act} {o:Oper} {ops:Array Oper}
def GE (μ0:AM) (e:Nat→Bool) (M:Nat→AM) (E:Nat→Bool):Nat→AM
 |0=>μ0
 |k+1=>bif E k&&e k then M (k+1) else GE μ0 e M E k
structure uz (C:Ctx) (n:Nat) (own:Nat→Bool) (ops:Array Oper) (al:List bx) (cm dr:Nat→Bool) (hs:Nat→Hint) (e:Nat→Bool) (F:Nat→AF) (M:Nat→AM) (V:Nat→AV):Prop where
 len:al.length=ops.size
 at_:∀(j:Nat),j<ops.size→∃o vc pr,ops[j]?=some o∧eu C.P own n ops o=some (al.getD j default)∧cI (ah C) (aA C) (cm j) (dr j) (F j) (M j) (al.getD j default) (hs j)=some (vc,pr,V j,M (j+1))∧aI vc∧aP pr ∧
  F (j+1)=put (F j) (al.getD j default).dst (V j)
 e1:∀k,k<ops.size→e k=false→M (k+1)=M k
 e2:∀k,k<ops.size→e k=true→eZ (al.getD k default).k=true∨(k+1=ops.size∧still (al.getD k default).k=false∧∀p,p+1<ops.size→∃q,p<q∧q<ops.size∧dep (al.getD p default) (al.getD q default)=true)
theorem Aq {n:Nat} {own:Nat→Bool} {al:List bx} {cm dr:Nat→Bool} {hs:Nat→Hint} {e:Nat→Bool} {F:Nat→AF} {M:Nat→AM} {V:Nat→AV} (hT:uz C n own ops al cm dr hs e F M V)
  (hd:∀p q,p<q→q<ops.size→dep (al.getD p default) (al.getD q default)=true→((dR ops.toList []).getD q 0).testBit p=true)
  {E:Nat→Bool} (hcl:∀(j:Nat) o,ops[j]?=some o→E j=true→∀e∈o.after.toList,Region.binds .any e=true→E e.on=true) {q:Nat} (hq:q<ops.size) (hqE:E q=false)
  (hr:∀o,ops[q]?=some o→∀e∈o.after.toList,Region.binds .any e=true→E e.on=true) {E':Nat→Bool} (hE':∀j,E' j=(j==q||E j))
  (hW:Wd C w0 S γ (GE (M 0) e M E ops.size) w) (hF:FR C.D n w S γ (GF (F 0) al V E ops.size) a) {K':Act→World→Prop} {Q:Exit→Act→World→Prop}
  (hK:∀a' w' S' γ',Ext w S γ w' S' γ'→Wd C w0 S' γ' (GE (M 0) e M E' ops.size) w'→FR C.D n w' S' γ' (GF (F 0) al V E' ops.size) a'→K' a' w'):wpOp C.P ops Q q K' a w:=by
 obtain⟨o,vc,pr,ho,hco,hev,hvc,hpr,hFq⟩:=hT.at_ q hq;obtain⟨ow,hkk,hdst,hlt,-⟩:=cJ hco;have before:∀p,p<q→dep (al.getD p default) (al.getD q default)=true→E p=true:=fun p hp hdp =>
  ahead (E:=fun j=>E j=true) (fun j o h1 h2 e h3 h4=>hcl j o (by rw[Array.getElem?_toList]at h1;exact h1) h2 e h3 h4) q o (by rw[Array.getElem?_toList];exact ho) (hr o ho) p (hd p q hp hq hdp)
 have behind:∀p,q<p→p<ops.size→dep (al.getD q default) (al.getD p default)=true→E p=false:=fun p hp hps hdp=>by
  cases hEp:E p with
  |false=>rfl
  |true =>
   obtain⟨op,_,_,hop,-⟩:=hT.at_ p hps;have:=ahead (E:=fun j=>E j=true) (fun j o h1 h2 e h3 h4=>hcl j o (by rw[Array.getElem?_toList]at h1;exact h1) h2 e h3 h4) p op (by rw[Array.getElem?_toList];exact hop) (hcl p op hop hEp) q (hd q p hp hps hdp);simp only[hqE]at this;cases this
 have closed:∀p r,p<r→r<ops.size→dep (al.getD p default) (al.getD r default)=true→E r=true→E p=true:=fun p r hpr hrs hdp hEr=>by
  obtain⟨or,_,_,hor,-⟩:=hT.at_ r hrs;exact ahead (E:=fun j=>E j=true) (fun j o h1 h2 e h3 h4=>hcl j o (by rw[Array.getElem?_toList]at h1;exact h1) h2 e h3 h4) r or (by rw[Array.getElem?_toList];exact hor) (hcl r or hor hEr) p (hd p r hpr hrs hdp)
 have lastE:∀k,q<k→k+1=ops.size→(∀p,p+1<ops.size→∃q,p<q∧q<ops.size∧dep (al.getD p default) (al.getD q default)=true)→E k=false:=fun k hqk hks htl=>by
  cases hEk:E k with
  |false=>rfl
  |true =>
   have key:∀m p,p+m=k→E p=true:=by
    intro m;induction m using Nat.strongRecOn with
    |_ m ih =>
     intro p hp;by_cases hm:m=0
     ·rw[show p=k by omega];exact hEk
     obtain⟨r,h1,h2,h3⟩:=htl p (by omega);exact closed p r h1 h2 h3 (ih (k-r) (by omega) r (by omega))
   have:=key (k-q) q (by omega);rw[hqE]at this;cases this
 have reads:∀t∈eY (al.getD q default),get (GF (F 0) al V E ops.size) t=get (F q) t:=by
  intro t ht;have low:∀k,k≤q→get (GF (F 0) al V E k) t=get (F k) t:=by
   intro k;induction k with
   |zero=>intro _;rfl
   |succ k ih =>
    intro hk;obtain⟨_,_,_,_,_,_,_,_,hFk⟩:=hT.at_ k (by omega);have ih:=ih (by omega);rw[GF,hFk];by_cases hdt:(al.getD k default).dst=some t
    ·have hE:=before k (by omega) (by simp only[dep,oS hdt ht,Bool.true_or]);rw[hE,cond_true,hdt,bC,bC]
    rw[bh hdt];cases E k with
    |true=>rw[cond_true,bh hdt];exact ih
    |false=>exact ih
  have high:∀m,q+m≤ops.size→get (GF (F 0) al V E (q+m)) t=get (GF (F 0) al V E q) t:=by
   intro m;induction m with
   |zero=>intro _;rfl
   |succ m ih =>
    intro hm;have ih:=ih (by omega);show get (GF (F 0) al V E (q+m+1)) t=_;rw[GF];by_cases hdt:(al.getD (q+m) default).dst=some t
    ·have hE:E (q+m)=false:=by
      cases m with
      |zero=>exact hqE
      |succ m=>exact behind (q+(m+1)) (by omega) (by omega) (by simp only[dep,oS hdt ht,Bool.or_true,Bool.true_or])
     rw[hE];exact ih
    cases E (q+m) with
    |true=>rw[cond_true,bh hdt];exact ih
    |false=>exact ih
  have h1:=high (ops.size-q) (by omega);rw[show q+(ops.size-q)=ops.size by omega]at h1;rw[h1];exact low q (Nat.le_refl _)
 have calmM:∀k,k<ops.size→e k=false→M (k+1)=M k:=hT.e1;have memq:still (al.getD q default).k=false→GE (M 0) e M E q=M q∧GE (M 0) e M E ops.size=M q:=by
  intro hns;have low:∀k,k≤q→GE (M 0) e M E k=M k:=by
   intro k;induction k with
   |zero=>intro _;rfl
   |succ k ih =>
    intro hk;have ih:=ih (by omega);rw[GE];cases he:e k with
    |true =>
     have he':eZ (al.getD k default).k=true:=(hT.e2 k (by omega) he).resolve_right (fun h=>by omega);have hE:=before k (by omega) (by simp only[dep,he',hns,Bool.not_false,Bool.and_true,Bool.or_true,Bool.true_or]);rw[hE];rfl
    |false=>rw[Bool.and_false,cond_false,ih,calmM k (by omega) he]
  have high:∀m,q+m≤ops.size→GE (M 0) e M E (q+m)=GE (M 0) e M E q:=by
   intro m;induction m with
   |zero=>intro _;rfl
   |succ m ih =>
    intro hm;have ih:=ih (by omega);show GE (M 0) e M E (q+m+1)=_;rw[GE];cases he:e (q+m) with
    |true =>
     have hE:E (q+m)=false:=by
      cases m with
      |zero=>exact hqE
      |succ m =>
       rcases hT.e2 (q+(m+1)) (by omega) he with he'|⟨h1,-,h3⟩
       ·exact behind (q+(m+1)) (by omega) (by omega) (by simp only[dep,he',hns,Bool.not_false,Bool.and_true,Bool.or_true])
       exact lastE _ (by omega) h1 h3
     rw[hE];exact ih
    |false=>rw[Bool.and_false];exact ih
  have h1:=high (ops.size-q) (by omega);rw[show q+(ops.size-q)=ops.size by omega]at h1;exact⟨low q (Nat.le_refl _),h1.trans (low q (Nat.le_refl _))⟩
 have frameNe:∀t,(al.getD q default).dst≠some t→get (GF (F 0) al V E' ops.size) t=get (GF (F 0) al V E ops.size) t:=by
  intro t ht;have:∀k,get (GF (F 0) al V E' k) t=get (GF (F 0) al V E k) t:=by
   intro k;induction k with
   |zero=>rfl
   |succ k ih =>
    rw[GF,GF,hE'];by_cases hkq:k=q
    ·subst hkq;rw[hqE];simp only[beq_self_eq_true,Bool.true_or,cond_true,cond_false];rw[bh ht];exact ih
    rw[show(k==q)=false by simpa using hkq,Bool.false_or];cases E k with
    |true =>
     simp only[cond_true];by_cases hdt:(al.getD k default).dst=some t
     ·rw[hdt,bC,bC]
     rw[bh hdt,bh hdt];exact ih
    |false=>exact ih
  exact this _
 have frameEq:∀t,(al.getD q default).dst=some t→get (GF (F 0) al V E' ops.size) t=V q:=by
  intro t ht;have:∀m,q+1+m≤ops.size→get (GF (F 0) al V E' (q+1+m)) t=V q:=by
   intro m;induction m with
   |zero =>
    intro _;rw[Nat.add_zero,GF,hE'];simp only[beq_self_eq_true,Bool.true_or,cond_true];rw[ht,bC]
   |succ m ih =>
    intro hm;have ih:=ih (by omega);show get (GF (F 0) al V E' (q+1+m+1)) t=_;rw[GF,hE'];rw[show(q+1+m==q)=false by simp;omega,Bool.false_or];by_cases hdt:(al.getD (q+1+m) default).dst=some t
    ·have hE:=behind (q+1+m) (by omega) (by omega) (by simp only[dep,mS ht hdt,Bool.or_true,Bool.true_or]);rw[hE];exact ih
    cases E (q+1+m) with
    |true=>rw[cond_true,bh hdt];exact ih
    |false=>exact ih
  have h1:=this (ops.size-(q+1)) (by omega);rwa [show q+1+(ops.size-(q+1))=ops.size by omega]at h1
 have memE':(e q=false→GE (M 0) e M E' ops.size=GE (M 0) e M E ops.size)∧(e q=true→GE (M 0) e M E' ops.size=M (q+1)):=by
  refine⟨fun he=>?_,fun he=>?_⟩
  ·have:∀k,GE (M 0) e M E' k=GE (M 0) e M E k:=by
    intro k;induction k with
    |zero=>rfl
    |succ k ih =>
     rw[GE,GE,hE'];by_cases hkq:k=q
     ·subst hkq;rw[he,Bool.and_false,Bool.and_false];exact ih
     rw[show(k==q)=false by simpa using hkq,Bool.false_or,ih]
   exact this _
  have hns:still (al.getD q default).k=false:=by
   rcases hT.e2 q hq he with he|⟨-,h,-⟩
   ·cases hk:(al.getD q default).k<;>rw[hk]at he<;>simp[eZ,calm]at he<;>simp[still,he]
   exact h
  have:∀m,q+1+m≤ops.size→GE (M 0) e M E' (q+1+m)=M (q+1):=by
   intro m;induction m with
   |zero =>
    intro _;rw[Nat.add_zero,GE,hE',he];simp
   |succ m ih =>
    intro hm;have ih:=ih (by omega);show GE (M 0) e M E' (q+1+m+1)=_;rw[GE,hE'];rw[show(q+1+m==q)=false by simp;omega,Bool.false_or];cases he2:e (q+1+m) with
    |true =>
     have hE:E (q+1+m)=false:=by
      rcases hT.e2 (q+1+m) (by omega) he2 with he'|⟨h1,-,h3⟩
      ·exact behind (q+1+m) (by omega) (by omega) (by simp only[dep,he',hns,Bool.not_false,Bool.and_true,Bool.or_true])
      exact lastE _ (by omega) h1 h3
     rw[hE];exact ih
    |false=>rw[Bool.and_false];exact ih
  have h1:=this (ops.size-(q+1)) (by omega);rwa [show q+1+(ops.size-(q+1))=ops.size by omega]at h1
 have hvals:∀t∈eY (al.getD q default),VR w S γ (get (F q) t) (a.eval (.tmp t)):=fun t ht=>by
  rw[←reads t ht];exact hF.val t
 have fin:∀u w' S' γ',Ext w S γ w' S' γ'→Wd C w0 S' γ' (GE (M 0) e M E' ops.size) w'→VR w' S' γ' (V q) u→K' (a.put o.dst u) w':=by
  intro u w' S' γ' hE hW' hv;refine hK _ w' S' γ' hE hW' ?_;have hFx:=hF.ext hE;have h1:FR C.D n w' S' γ' (Pur.put (GF (F 0) al V E ops.size) o.dst (V q)) (a.put o.dst u):=hFx.put hv hlt;refine⟨h1.size,h1.defers,fun t=>?_⟩;have h2:=h1.val t;by_cases hdt:(al.getD q default).dst=some t
  ·rw[frameEq t hdt];rw[←hdst,hdt,bC]at h2;rw[←hdst,hdt];exact h2
  rw[frameNe t hdt];rw[←hdst]at h2;rw[bh hdt]at h2;rw[←hdst];exact h2
 cases hst:still (al.getD q default).k with
 |true =>
  have hcalm:e q=false:=by
   cases heq:e q with
   |false=>rfl
   |true =>
    rcases hT.e2 q hq heq with h|⟨-,h,-⟩
    ·cases hk:(al.getD q default).k<;>rw[hk]at hst h<;>simp[still]at hst<;>simp[eZ,calm,hst]at h
    rw[hst]at h;cases h
  have hev2:=jD hst hev (GE (M 0) e M E ops.size);refine dd ho (bL hW hco hev2 hvc hpr hvals fun u w' S' γ' hE hW' hv=>fin u w' S' γ' hE ?_ hv);rw[memE'.1 hcalm];exact hW'
 |false =>
  obtain⟨-,hm⟩:=memq hst;rw[hm]at hW;refine dd ho (bL hW hco hev hvc hpr hvals fun u w' S' γ' hE hW' hv=>fin u w' S' γ' hE ?_ hv);cases he:e q with
  |true=>rw[memE'.2 he];exact hW'
  |false=>rw[memE'.1 he,hm,←calmM q hq he];exact hW'
theorem xS {n m:Nat} {own:Nat→Bool} {al:List bx} {cm dr:Nat→Bool} {hs:Nat→Hint} {e:Nat→Bool} {F:Nat→AF} {M:Nat→AM} {V:Nat→AV} {R:Exit→AF→AM→Prop} (hT:uz C n own ops al cm dr hs e F M V)
  (hedge:gE ops.toList 0=true) (hd:∀p q,p<q→q<ops.size→dep (al.getD p default) (al.getD q default)=true→((dR ops.toList []).getD q 0).testBit p=true) (hR:R .normal (F ops.size) (M ops.size)) :
  ∀(fuel:Nat) (listed:Array Bool) (S1:Nat→Prop) (γ1:Gh) (w1:World) (a1:Act),listed.size=ops.size→(List.range ops.size).countP (fun i=>!listed.getD i true)≤fuel →
   (∀(j:Nat) o,ops[j]?=some o→listed.getD j true=true→∀e∈o.after.toList,Region.binds .any e=true→listed.getD e.on true=true) →
   Ext w S γ w1 S1 γ1→Wd C w0 S1 γ1 (GE (M 0) e M (fun j=>listed.getD j true) ops.size) w1→FR C.D n w1 S1 γ1 (GF (F 0) al V (fun j=>listed.getD j true) ops.size) a1 →
   wpAny C.P .any ops (Ends C n m w0 w S γ R) fuel listed a1 w1:=by
 have edge:∀(j:Nat) o,ops[j]?=some o→∀e∈o.after.toList,Region.binds .any e=true→e.on<j:=fun j o ho e he hb=>by
  have:=gu ops.toList hedge (by rw[Array.getElem?_toList];exact ho) e he hb;omega
 have stop:∀(listed:Array Bool) (S1:Nat→Prop) (γ1:Gh) (w1:World) (a1:Act),listed.size=ops.size→Region.ready .any ops listed=[] →
   Ext w S γ w1 S1 γ1→Wd C w0 S1 γ1 (GE (M 0) e M (fun j=>listed.getD j true) ops.size) w1→FR C.D n w1 S1 γ1 (GF (F 0) al V (fun j=>listed.getD j true) ops.size) a1→Ends C n m w0 w S γ R .normal a1 w1:=by
  intro listed S1 γ1 w1 a1 hsz hnil hE hW hF;have all:∀j,j<ops.size→listed.getD j true=true:=by
   intro j;induction j using Nat.strongRecOn with
   |_ j ih =>
    intro hj;cases hl:listed.getD j true with
    |true=>rfl
    |false =>
     have ho:ops[j]?=some ops[j]:=by simp[hj]
     have:j∈Region.ready .any ops listed:=cN.mpr ⟨hj,hl,_,ho,fun e he hb=>by
      have h1:=edge j _ ho e he hb;have h2:=ih e.on h1 (by omega);have hlt:e.on<listed.size:=by omega
      simpa [Array.getD,hlt]using h2⟩
     rw[hnil]at this;cases this
  have hGF:∀k,k≤ops.size→GF (F 0) al V (fun j=>listed.getD j true) k=F k:=by
   intro k;induction k with
   |zero=>intro _;rfl
   |succ k ih =>
    intro hk;obtain⟨_,_,_,_,_,_,_,_,hFk⟩:=hT.at_ k (by omega);rw[GF,all k (by omega),cond_true,ih (by omega),hFk]
  have hGM:∀k,k≤ops.size→GE (M 0) e M (fun j=>listed.getD j true) k=M k:=by
   intro k;induction k with
   |zero=>intro _;rfl
   |succ k ih =>
    intro hk;rw[GE,all k (by omega),Bool.true_and];cases he:e k with
    |true=>rfl
    |false =>
     rw[cond_false,ih (by omega)];exact(hT.e1 k (by omega) he).symm
  rw[hGM _ (Nat.le_refl _)]at hW;rw[hGF _ (Nat.le_refl _)]at hF;exact⟨S1,γ1,_,_,hE.ue m,hW,hF,hR⟩
 intro fuel;induction fuel with
 |zero =>
  intro listed S1 γ1 w1 a1 hsz hcnt hcl hE hW hF;have hnil:Region.ready .any ops listed=[]:=by
   cases hr:Region.ready .any ops listed with
   |nil=>rfl
   |cons i r =>
    have hi:i∈Region.ready .any ops listed:=by rw[hr];exact List.mem_cons_self
    obtain⟨h1,h2,-⟩:=cN.mp hi;have:0<(List.range ops.size).countP (fun i=>!listed.getD i true):=List.countP_pos_iff.mpr ⟨i,List.mem_range.mpr h1,by simp[h2]⟩;omega
  exact⟨hnil,stop listed S1 γ1 w1 a1 hsz hnil hE hW hF⟩
 |succ fuel ih =>
  intro listed S1 γ1 w1 a1 hsz hcnt hcl hE hW hF;refine⟨fun hnil=>stop listed S1 γ1 w1 a1 hsz hnil hE hW hF,fun q hq=>?_⟩;obtain⟨h1,h2,o,ho,h3⟩:=cN.mp hq;have hset:∀j,(listed.setIfInBounds q true).getD j true=(j==q||listed.getD j true):=fun j=>by
   by_cases hjq:j=q
   ·subst hjq;simp[Array.getD,hsz,h1]
   rw[show(j==q)=false by simpa using hjq,Bool.false_or];simp only[Array.getD_eq_getD_getElem?];rw[Array.getElem?_setIfInBounds_ne (Ne.symm hjq)]
  have hqE:∀e:Nat,e<ops.size→listed.getD e false=true→listed.getD e true=true:=fun e he h=>by
   have hlt:e<listed.size:=by omega
   simpa [Array.getD,hlt]using h
  have hrq:∀o,ops[q]?=some o→∀e∈o.after.toList,Region.binds .any e=true→listed.getD e.on true=true:=fun o' ho' e he hb=>by
   rw[ho]at ho';injection ho' with ho';subst ho'
   have:=edge q o ho e he hb;exact hqE e.on (by omega) (h3 e he hb)
  refine Aq hT hd (E:=fun j=>listed.getD j true) hcl h1 h2 hrq (E':=fun j=>(listed.setIfInBounds q true).getD j true) hset hW hF fun a' w' S' γ' hE' hW' hF'=>?_
  refine ih (listed.setIfInBounds q true) S' γ' w' a' (by simp[hsz]) ?_ ?_ (hE.trans hE') hW' hF'
  ·have:=fy (p:=fun i=>!listed.getD i true) (q:=fun i=>!(listed.setIfInBounds q true).getD i true) (List.range ops.size) (List.mem_range.mpr h1) (by simp[h2]) (by rw[hset];simp) (fun j hj=>by
    rw[hset]at hj;simp only[Bool.not_or,Bool.and_eq_true]at hj;exact hj.2)
   omega
  intro j oj hoj hj e he hb;rw[hset]at hj ⊢;simp only[Bool.or_eq_true,beq_iff_eq]at hj ⊢;rcases hj with hj|hj
  ·subst hj;exact .inr (hrq oj hoj e he hb)
  exact .inr (hcl j oj hoj hj e he hb)
def p8 (al:List bx):Bool:=((List.range (al.length-1)).all fun p=>(List.range al.length).any fun q=>Nat.blt p q&&dep (al.getD p default) (al.getD q default))&& !still (al.getD (al.length-1) default).k
theorem rl {n m:Nat} {own:Nat→Bool} {cm:Bool} {al:List bx} {x:bx} {hs:List (Nat×Hint)} {h:Hint} {vc vc2:VC} {pr pr2:List Prop} {f1 f':AF} {μ1 μ':AM} {R:Exit→AF→AM→Prop} (ht:p8 (al++[x])=true)
  (he:cV (ah C) (aA C) cm true al hs 0 [] [] f μ=some (vc,pr,f1,μ1)) (hvc:aI vc) (hpr:aP pr) (he2:ff (ah C) (aA C) false false f1 μ1 x h=some (vc2,pr2,f',μ')) (hvc2:aI vc2) (hpr2:aP pr2) (hR:R .normal f' μ') :
  Aw C own n m (.region true (al++[x])) R f μ:=by
 intro c hc;obtain⟨id,ops,rfl,hc,hd⟩:=jE hc;intro w0 S γ w a hW hF;obtain⟨-,F,M,V,h1,h2,h3,h4,h5⟩:=da al 0 [] [] f μ vc pr f1 μ1 he hvc hpr;obtain⟨hl,hat⟩:=dQ hc;replace hl:(al++[x]).length=ops.size:=hl.trans (Array.length_toList);have hl2:al.length+1=ops.size:=by rw[←hl];simp
 rw[Nat.zero_add]at h3 h4;unfold ff at he2;cases hv:cI (ah C) (aA C) false false f1 μ1 x h with
 |none=>rw[hv]at he2;cases he2
 |some q =>
  obtain⟨vc3,pr3,v,μ3⟩:=q;rw[hv]at he2;simp only at he2;obtain⟨rfl,rfl,rfl,rfl⟩:=cD he2;have hg1:∀j,j<al.length→(al++[x]).getD j default=al.getD j default:=fun j hj=>by simp[List.getD,List.getElem?_append_left hj]
  have hg2:(al++[x]).getD al.length default=x:=by simp[List.getD]
  simp only[p8,Bool.and_eq_true,Bool.not_eq_true']at ht;have hT:uz C n own ops (al++[x]) (fun j=>if j<al.length then cm else false) (fun j=>decide (j<al.length)) (fun j=>if j<al.length then bF hs j else h) (fun j=>if j<al.length then eZ ((al++[x]).getD j default).k else true)
    (fun j=>if j≤al.length then F j else put f1 x.dst v) (fun j=>if j≤al.length then M j else μ3) (fun j=>if j<al.length then V j else v):=by
   refine⟨hl,fun j hj=>?_,fun k hk hek=>?_,fun k hk hek=>?_⟩
   ·have ho:ops[j]?=some ops[j]:=by simp[hj]
    obtain⟨ao,hao,hco⟩:=hat j ops[j] (by rw[Array.getElem?_toList];exact ho);have hg:(al++[x]).getD j default=ao:=by rw[List.getD,hao];rfl
    by_cases hja:j<al.length
    ·obtain⟨vcj,prj,k1,k2,k3,k4⟩:=h5 j ao (by rw[List.getElem?_append_left hja]at hao;exact hao);rw[Nat.zero_add]at k1 k4;refine⟨_,vcj,prj,ho,by rw[hg];exact hco,?_,k2,k3,?_⟩
     ·rw[hg];simp only[if_pos hja,decide_eq_true hja,if_pos (show j≤al.length by omega),if_pos (show j+1≤al.length by omega)];exact k1
     rw[hg];simp only[if_pos hja,if_pos (show j≤al.length by omega),if_pos (show j+1≤al.length by omega)];exact k4
    have hja2:j=al.length:=by omega
    subst hja2;rw[hg2]at hg;subst hg;refine⟨_,vc3,pr3,ho,by rw[hg2];exact hco,?_,hvc2,hpr2,?_⟩
    ·rw[hg2];simp only[Nat.lt_irrefl,if_false,decide_false,Nat.le_refl,if_true,if_neg (show ¬al.length+1≤al.length by omega),h3,h4];exact hv
    rw[hg2];simp only[Nat.lt_irrefl,if_false,Nat.le_refl,if_true,if_neg (show ¬al.length+1≤al.length by omega),h3]
   ·by_cases hka:k<al.length
    ·simp only[if_pos hka]at hek;obtain⟨ao,hao,-⟩:=hat k ops[k] (by rw[Array.getElem?_toList];simp[hk]);obtain⟨vcj,prj,k1,-,-,-⟩:=h5 k ao (by rw[List.getElem?_append_left hka]at hao;exact hao);rw[Nat.zero_add]at k1;have hg:(al++[x]).getD k default=ao:=by rw[List.getD,hao];rfl
     rw[hg]at hek;simp only[if_pos (show k≤al.length by omega),if_pos (show k+1≤al.length by omega)];exact eW (by simpa [eZ]using hek) k1
    simp only[if_neg hka]at hek;cases hek
   by_cases hka:k<al.length
   ·simp only[if_pos hka]at hek;exact .inl hek
   have hka2:k=al.length:=by omega
   subst hka2;refine .inr ⟨hl2,?_,fun p hp=>?_⟩
   ·have:=ht.2;rw[hl,←hl2,Nat.add_sub_cancel]at this;exact this
   have h6:=List.all_eq_true.mp ht.1 p (List.mem_range.mpr (by omega));obtain⟨q,hq1,hq2⟩:=List.any_eq_true.mp h6;simp only[Bool.and_eq_true]at hq2;exact⟨q,Nat.blt_eq.mp hq2.1,by rw[←hl];exact List.mem_range.mp hq1,hq2.2⟩
  have hok:=hd rfl;simp only[nR,Bool.and_eq_true]at hok;have hdep:∀p q,p<q→q<ops.size→dep ((al++[x]).getD p default) ((al++[x]).getD q default)=true→((dR ops.toList []).getD q 0).testBit p=true:=fun p q hpq hq hdp=>by
   have h6:=List.all_eq_true.mp hok.2 q (List.mem_range.mpr (by omega));have h7:=List.all_eq_true.mp h6 p (List.mem_range.mpr hpq);rw[hdp]at h7;simpa using h7
  obtain⟨hW1,hE1⟩:=hW.drew;refine wp_region_any C.mixed (xS hT hok.1 hdep ?_ ops.size (Array.replicate ops.size false) S γ w.drew a (by simp) (Nat.le_trans (List.countP_le_length) (by simp)) ?_ hE1 ?_ ?_)
  ·simp only[if_neg (show ¬ops.size≤al.length by omega)];exact hR
  ·intro j o ho hj;have hjs:j<ops.size:=by
    apply Classical.byContradiction;intro hn;rw[Array.getElem?_eq_none (by omega)]at ho;cases ho
   simp[Array.getD,hjs]at hj
  ·have:∀(e:Nat→Bool) (N:Nat→AM) k,k≤ops.size→GE (N 0) e N (fun j=>(Array.replicate ops.size false).getD j true) k=N 0:=by
    intro e N k;induction k with
    |zero=>intro _;rfl
    |succ k ih =>
     intro hk;have:(Array.replicate ops.size false).getD k true=false:=by simp[Array.getD];omega
     rw[GE,this,Bool.false_and,cond_false,ih (by omega)]
   have key:=this (fun j=>if j<al.length then eZ ((al++[x]).getD j default).k else true) (fun j=>if j≤al.length then M j else μ3) ops.size (Nat.le_refl _);rw[key];simp only[Nat.zero_le,if_true,h2];exact hW1
  have:∀(N:Nat→AF) (V:Nat→AV) k,k≤ops.size→GF (N 0) (al++[x]) V (fun j=>(Array.replicate ops.size false).getD j true) k=N 0:=by
   intro N V k;induction k with
   |zero=>intro _;rfl
   |succ k ih =>
    intro hk;have:(Array.replicate ops.size false).getD k true=false:=by simp[Array.getD];omega
    rw[GF,this,cond_false,ih (by omega)]
  have key:=this (fun j=>if j≤al.length then F j else put f1 x.dst v) (fun j=>if j<al.length then V j else v) ops.size (Nat.le_refl _);rw[key];simp only[Nat.zero_le,if_true,h1];exact hF.drew hE1
end
def bk (X:FuncId→List PV→PV→Prop) (Y:FuncId→List AV→AM→AV→AM→Prop) (T:vn) (H:List (Nat×Hint)) (cm:Bool):List bx→VC→List Prop→AF→AM→Option (VC×List Prop×AF×AM)
 |[],_,_,_,_=>none
 |o::os,vc,pr,f,μ=>match os with
  |[]=>match ff X Y false false f μ o (eN T (eO H o.dst) f μ o.k) with
   |some (vc',pr',f',μ')=>some (vc'++vc,pr'++pr,f',μ')
   |none=>none
  |_::_=>match ff X Y cm true f μ o (eN T (eO H o.dst) (strip cm f o.k) μ o.k) with
   |some (vc',pr',f',μ')=>bk X Y T H cm os (vc'++vc) (pr'++pr) f' μ'
   |none=>none
theorem lB {X:FuncId→List PV→PV→Prop} {Y:FuncId→List AV→AM→AV→AM→Prop} {T:vn} {H:List (Nat×Hint)} {cm:Bool}:∀(al:List bx) (i:Nat) (vc:VC) (pr:List Prop) (f:AF) (μ:AM) (vcF:VC) (prF:List Prop) (f':AF) (μ':AM),
  bk X Y T H cm al vc pr f μ=some (vcF,prF,f',μ')→∃al0 x hs h vc1 pr1 f1 μ1 vc2 pr2,al=al0++[x]∧cV X Y cm true al0 hs i vc pr f μ=some (vc1,pr1,f1,μ1)∧ff X Y false false f1 μ1 x h=some (vc2,pr2,f',μ')∧vcF=vc2++vc1∧prF=pr2++pr1
 |[],_,_,_,_,_,_,_,_,_,h=>by simp[bk]at h
 |o::os,i,vc,pr,f,μ,vcF,prF,f',μ',h=>by
  cases os with
  |nil =>
   simp only[bk]at h;split at h
   ·rename_i vc' pr' f1 μ1 he;obtain⟨rfl,rfl,rfl,rfl⟩:=cD h;exact⟨[],o,[],_,vc,pr,f,μ,vc',pr',rfl,rfl,he,rfl,rfl⟩
   cases h
  |cons o2 os =>
   rw[bk]at h;split at h
   ·rename_i vc' pr' f1 μ1 he;obtain⟨al0,x,hs,hh,vc1,pr1,f2,μ2,vc2,pr2,e1,e2,e3,e4,e5⟩:=lB (o2::os) (i+1) _ _ _ _ _ _ _ _ h;refine⟨o::al0,x,(i,eN T (eO H o.dst) (strip cm f o.k) μ o.k)::hs,hh,vc1,pr1,f2,μ2,vc2,pr2,by rw[e1];rfl,?_,e3,e4,e5⟩;simp only[cV,bZ,he];rw[←e2];exact jF al0 (i+1) _ _ _ _ fun j hj=>dA (by omega)
   cases h
theorem cw {C:Ctx} {own:Nat→Bool} {n m:Nat} {al:List bx} {R:Exit→AF→AM→Prop} {f:AF} {μ:AM} {T:vn} {H:List (Nat×Hint)} (ht:p8 al=true)
  (h:gN (R .normal) (bk (ah C) (aA C) T H (guarded al) al [] [] f μ)):Aw C own n m (.region true al) R f μ:=by
 unfold gN at h;split at h
 ·rename_i vc pr f' μ' he;obtain⟨al0,x,hs,hh,vc1,pr1,f1,μ1,vc2,pr2,e1,e2,e3,rfl,rfl⟩:=lB al 0 _ _ _ _ _ _ _ _ he;rw[e1]at ht ⊢;obtain⟨h11,h12⟩:=ew h.1;obtain⟨h21,h22⟩:=kq h.2.1;exact rl ht e2 h12 h22 e3 h11 h21 h.2.2
 exact h.elim
end
end Pur
end Go.Proofs.YtfgcmogbdcifeaaGreatDoor
