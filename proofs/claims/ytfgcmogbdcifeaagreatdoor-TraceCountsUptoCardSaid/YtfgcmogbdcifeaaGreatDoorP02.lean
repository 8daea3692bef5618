/-
  Part of the proofs of TraceFigures and TraceCounts (PurSH PurSI PurSJ PurAE PurFR PurLS PurRM PurTB PurRA PurYA PurYB PurYC PurYD PurYE PurYF)
-/
import Derived.Test.YtfgcmogbdcifeaaGreatDoorP01
import Derived.WalkSmall
import Derived.Maps.RangeRun
import Derived.RangeFuncSeq
import Derived.OrdersIn
import Derived.RangeFuncRecord
import Derived.RangeFuncCalls
set_option maxRecDepth 10000
set_option linter.unusedSimpArgs false
set_option linter.unusedVariables false
namespace Go.Proofs.YtfgcmogbdcifeaaGreatDoor
namespace Pur
open Go.RowKit
section
def lC {α:Type}:Nat→List α→List α
 |0,a::b::r=>b::a::r
 |p+1,a::r=>a::lC p r
 |_,l=>l
def sg (p j:Nat):Nat:=bif Nat.beq j p then p+1 else bif Nat.beq j (p+1) then p else j
theorem sZ (p:Nat):sg p p=p+1:=by simp[sg]
theorem tw {i j:Nat} (h:i≠j):Nat.beq i j=false:=by
 cases hb:Nat.beq i j with
 |false=>rfl
 |true=>exact absurd (Nat.eq_of_beq_eq_true hb) h
theorem ta (p:Nat):sg p (p+1)=p:=by
 have:Nat.beq (p+1) p=false:=tw (by omega);simp[sg,this]
theorem nZ {p j:Nat} (h1:j≠p) (h2:j≠p+1):sg p j=j:=by
 have e1:Nat.beq j p=false:=tw h1;have e2:Nat.beq j (p+1)=false:=tw h2;simp[sg,e1,e2]
theorem gO (p j:Nat):sg p (sg p j)=j:=by
 by_cases h1:j=p
 ·subst h1;rw[sZ,ta]
 by_cases h2:j=p+1
 ·subst h2;rw[ta,sZ]
 rw[nZ h1 h2,nZ h1 h2]
theorem rm {p j n:Nat} (hp:p+1<n) (hj:j<n):sg p j<n:=by
 by_cases h1:j=p
 ·subst h1;rw[sZ];exact hp
 by_cases h2:j=p+1
 ·subst h2;rw[ta];omega
 rw[nZ h1 h2];exact hj
theorem y6 {p i j:Nat} (h:i<j) (hn:¬(i=p∧j=p+1)):sg p i<sg p j:=by
 by_cases h1:i=p
 ·subst h1;rw[sZ,nZ (by omega) (by omega)];omega
 by_cases h2:i=p+1
 ·subst h2;rw[ta,nZ (by omega) (by omega)];omega
 rw[nZ h1 h2];by_cases h3:j=p
 ·subst h3;rw[sZ];omega
 by_cases h4:j=p+1
 ·subst h4;rw[ta];omega
 rw[nZ h3 h4];exact h
theorem oW {α:Type}:∀(p:Nat) (l:List α),(lC p l).length=l.length
 |0,[]=>rfl
 |0,[_]=>rfl
 |0,_::_::_=>rfl
 |_+1,[]=>rfl
 |p+1,a::r=>by rw[lC,List.length_cons,oW p r,List.length_cons]
theorem EI (p j:Nat):sg (p+1) (j+1)=sg p j+1:=by
 by_cases h1:j=p
 ·subst h1;rw[sZ,sZ]
 by_cases h2:j=p+1
 ·subst h2;rw[ta,ta]
 rw[nZ h1 h2,nZ (by omega) (by omega)]
theorem oa {α:Type}:∀(p:Nat) (l:List α) (j:Nat),p+1<l.length→(lC p l)[j]?=l[sg p j]?
 |0,a::b::r,0,_=>rfl
 |0,a::b::r,1,_=>rfl
 |0,a::b::r,j+2,_=>by rw[nZ (by omega) (by omega)];rfl
 |p+1,a::r,0,_=>by rw[nZ (by omega) (by omega)];rfl
 |p+1,a::r,j+1,h=>by
  rw[lC,EI,List.getElem?_cons_succ,List.getElem?_cons_succ];exact oa p r j (by simpa using h)
 |0,[],_,h=>by simp at h
 |0,[_],_,h=>by simp at h
 |_+1,[],_,h=>by simp at h
def xT (p:Nat) (al:List bx):Bool:=Nat.blt (p+1) al.length&&al.all fun ao=>match ao.guard with
 |none=>true
 |some (t,_)=>!((al.getD p default).dst==some t)&& !((al.getD (p+1) default).dst==some t)
def rn (p:Nat):List (Nat×Nat)→List (Nat×Nat)
 |[]=>[]
 |(u,v)::r=>bif Nat.beq u p&&Nat.beq v (p+1) then rn p r else (u,v)::rn p r
def rp (p:Nat):List (Nat×Nat)→List (Nat×Nat)
 |[]=>[]
 |(u,v)::r=>bif Nat.beq u p&&Nat.beq v (p+1) then rp p r else (sg p u,sg p v)::rp p r
theorem tx {p u v:Nat} (hn:¬(u=p∧v=p+1)):∀{l:List (Nat×Nat)},(u,v)∈l→(u,v)∈rn p l
 |(x,y)::r,h=>by
  rw[rn];cases h with
  |head =>
   have:(Nat.beq u p&&Nat.beq v (p+1))=false:=by
    cases hc:(Nat.beq u p&&Nat.beq v (p+1)) with
    |false=>rfl
    |true =>
     rw[Bool.and_eq_true]at hc;exact absurd ⟨Nat.eq_of_beq_eq_true hc.1,Nat.eq_of_beq_eq_true hc.2⟩ hn
   rw[this,cond_false];exact List.mem_cons_self
  |tail _ h =>
   have:=tx hn h;cases hc:(Nat.beq x p&&Nat.beq y (p+1)) with
   |true=>exact this
   |false=>exact List.mem_cons_of_mem _ this
theorem tz {p u v:Nat} (hn:¬(u=p∧v=p+1)):∀{l:List (Nat×Nat)},(u,v)∈l→(sg p u,sg p v)∈rp p l
 |(x,y)::r,h=>by
  rw[rp];cases h with
  |head =>
   have:(Nat.beq u p&&Nat.beq v (p+1))=false:=by
    cases hc:(Nat.beq u p&&Nat.beq v (p+1)) with
    |false=>rfl
    |true =>
     rw[Bool.and_eq_true]at hc;exact absurd ⟨Nat.eq_of_beq_eq_true hc.1,Nat.eq_of_beq_eq_true hc.2⟩ hn
   rw[this,cond_false];exact List.mem_cons_self
  |tail _ h =>
   have:=tz hn h;cases hc:(Nat.beq x p&&Nat.beq y (p+1)) with
   |true=>exact this
   |false=>exact List.mem_cons_of_mem _ this
def Path (ops:Array Oper):List Nat→Array Bool→Prop
 |[],l=>Region.ready .any ops l=[]
 |i::r,l=>i∈Region.ready .any ops l∧Path ops r (l.setIfInBounds i true)
section
variable {C:Ctx} {w0 w:World} {S:Nat→Prop} {γ:Gh} {μ:AM} {f:AF} {a:Act} {ops:Array Oper}
theorem nc {listed:Array Bool} {q:Nat} (h1:q<listed.size) (j:Nat):(listed.setIfInBounds q true).getD j true=(j==q||listed.getD j true):=by
 by_cases hjq:j=q
 ·subst hjq;simp[Array.getD,h1]
 rw[show(j==q)=false by simpa using hjq,Bool.false_or];simp only[Array.getD_eq_getD_getElem?];rw[Array.getElem?_setIfInBounds_ne (Ne.symm hjq)]
theorem vZ:∀(fuel t:Nat) (listed:Array Bool),listed.size=ops.size→(List.range ops.size).countP (fun i=>!listed.getD i true)≤fuel→Path ops (Region.linearise.go .any ops fuel t listed []) listed
 |0,t,listed,hsz,hc=>by
  show Region.ready .any ops listed=[]
  cases hr:Region.ready .any ops listed with
  |nil=>rfl
  |cons i r =>
   have hi:i∈Region.ready .any ops listed:=by rw[hr];exact List.mem_cons_self
   obtain⟨h1,h2,-⟩:=cN.mp hi;have:0<(List.range ops.size).countP (fun i=>!listed.getD i true):=List.countP_pos_iff.mpr ⟨i,List.mem_range.mpr h1,by simp[h2]⟩;omega
 |fuel+1,t,listed,hsz,hc=>by
  simp only[Region.linearise.go];change Path ops (match (Region.ready .any ops listed)[t % (Region.ready .any ops listed).length]? with
   |some i=>Region.linearise.go .any ops fuel (t / (Region.ready .any ops listed).length) (listed.setIfInBounds i true) [i]
   |none=>[].reverse) listed
  cases hi:(Region.ready .any ops listed)[t % (Region.ready .any ops listed).length]? with
  |none =>
   show Region.ready .any ops listed=[]
   cases hr:Region.ready .any ops listed with
   |nil=>rfl
   |cons x xs =>
    rw[hr]at hi;have hlt:t % (x::xs).length<(x::xs).length:=Nat.mod_lt _ (by simp);simp at hi;simp at hlt;omega
  |some i =>
   simp only[];rw[linearise_go_acc,List.reverse_singleton,List.singleton_append];have hm:=List.mem_of_getElem? hi;obtain⟨h1,h2,-⟩:=cN.mp hm;refine⟨hm,vZ fuel _ _ (by simp[hsz]) ?_⟩;have:=fy (p:=fun i=>!listed.getD i true) (q:=fun j=>!(listed.setIfInBounds i true).getD j true) (List.range ops.size) (List.mem_range.mpr h1) (by simp[h2]) (by rw[nc (by omega)];simp) (fun j hj=>by
    rw[nc (by omega)]at hj;simp only[Bool.not_or,Bool.and_eq_true]at hj;exact hj.2)
   omega
def Good (n:Nat) (B:Nat→Nat→Prop):List Nat→(Nat→Bool)→Prop
 |[],E=>∀j,j<n→E j=true
 |q::r,E=>q<n∧E q=false∧(∀p,p<q→B p q→E p=true)∧(∀p,q<p→p<n→B q p→E p=false)∧Good n B r (fun j=>j==q||E j)
abbrev bd (ops:Array Oper) (p q:Nat):Prop:=((dR ops.toList []).getD q 0).testBit p=true
theorem tA (hedge:gE ops.toList 0=true):∀(L:List Nat) (listed:Array Bool),listed.size=ops.size→(∀(j:Nat) o,ops[j]?=some o→listed.getD j true=true→∀e∈o.after.toList,Region.binds .any e=true→listed.getD e.on true=true) →
  Path ops L listed→Good ops.size (bd ops) L (fun j=>listed.getD j true)
 |[],listed,hsz,hcl,h=>by
  have edge:∀(j:Nat) o,ops[j]?=some o→∀e∈o.after.toList,Region.binds .any e=true→e.on<j:=fun j o ho e he hb=>by
   have:=gu ops.toList hedge (by rw[Array.getElem?_toList];exact ho) e he hb;omega
  intro j;induction j using Nat.strongRecOn with
  |_ j ih =>
   intro hj;cases hl:listed.getD j true with
   |true=>exact hl
   |false =>
    have ho:ops[j]?=some ops[j]:=by simp[hj]
    have:j∈Region.ready .any ops listed:=cN.mpr ⟨hj,hl,_,ho,fun e he hb=>by
     have h1:=edge j _ ho e he hb;have h2:=ih e.on h1 (by omega);have hlt:e.on<listed.size:=by omega
     simpa [Array.getD,hlt]using h2⟩
    rw[show Region.ready .any ops listed=[] from h]at this;cases this
 |q::r,listed,hsz,hcl,h=>by
  obtain⟨hm,hp⟩:=h;obtain⟨h1,h2,o,ho,h3⟩:=cN.mp hm;have edge:∀(j:Nat) o,ops[j]?=some o→∀e∈o.after.toList,Region.binds .any e=true→e.on<j:=fun j o ho e he hb=>by
   have:=gu ops.toList hedge (by rw[Array.getElem?_toList];exact ho) e he hb;omega
  have hrq:∀e∈o.after.toList,Region.binds .any e=true→listed.getD e.on true=true:=fun e he hb=>by
   have h4:=edge q o ho e he hb;have h5:=h3 e he hb;have hlt:e.on<listed.size:=by omega
   simpa [Array.getD,hlt]using h5
  have hset:=nc (listed:=listed) (q:=q) (by omega);refine⟨h1,h2,fun p hp hb=>?_,fun p hp hps hb=>?_,?_⟩
  ·exact ahead (E:=fun j=>listed.getD j true=true) (fun j o h1 h2 e h3 h4=>hcl j o (by rw[Array.getElem?_toList]at h1;exact h1) h2 e h3 h4) q o (by rw[Array.getElem?_toList];exact ho) hrq p hb
  ·cases hEp:listed.getD p true with
   |false=>exact hEp
   |true =>
    have hop:ops[p]?=some ops[p]:=by simp[hps]
    have:=ahead (E:=fun j=>listed.getD j true=true) (fun j o h1 h2 e h3 h4=>hcl j o (by rw[Array.getElem?_toList]at h1;exact h1) h2 e h3 h4) p _ (by rw[Array.getElem?_toList];exact hop) (hcl p _ hop hEp) q hb;simp only[h2]at this;cases this
  rw[←show(fun j=>(listed.setIfInBounds q true).getD j true)=(fun j=>j==q||listed.getD j true) from funext hset];refine tA hedge r _ (by simp[hsz]) (fun j oj hoj hj e he hb=>?_) hp;rw[hset]at hj ⊢;simp only[Bool.or_eq_true,beq_iff_eq]at hj ⊢;rcases hj with hj|hj
  ·subst hj;rw[ho]at hoj;injection hoj with hoj
   subst hoj;exact .inr (hrq e he hb)
  exact .inr (hcl j oj hoj hj e he hb)
theorem v7 {n p:Nat} (hpn:p+1<n) {B:Nat→Nat→Prop}:∀(L:List Nat) (E:Nat→Bool),Good n B L E →
  (E p=true→Good n (fun x y=>B x y∨(x=p∧y=p+1)) L E) ∧
  (E (p+1)=true→Good n (fun x y=>(sg p x<sg p y∧B (sg p x) (sg p y))∨(x=p∧y=p+1)) (L.map (sg p)) (fun j=>E (sg p j))) ∧
  (E p=false→E (p+1)=false→Good n (fun x y=>B x y∨(x=p∧y=p+1)) L E∨Good n (fun x y=>(sg p x<sg p y∧B (sg p x) (sg p y))∨(x=p∧y=p+1)) (L.map (sg p)) (fun j=>E (sg p j)))
 |[],E,h=>⟨fun _=>h,fun _ j hj=>h _ (rm hpn hj),fun _ _=>.inl h⟩
 |q::r,E,⟨h1,h2,h3,h4,h5⟩=>by
  obtain⟨i1,i2,i3⟩:=v7 hpn r _ h5;have ee:(fun j=>(fun j=>j==q||E j) (sg p j))=fun j=>j==sg p q||E (sg p j):=funext fun j=>by
   show(sg p j==q||E (sg p j))=_;congr 1;by_cases hj:sg p j=q
   ·rw[←hj,gO];simp
   rw[show(sg p j==q)=false by simpa using hj];symm;have:j≠sg p q:=fun e=>hj (by rw[e,gO])
   simpa using this
  rw[ee]at i2 i3;have oldB:∀x,x<sg p q→sg p x<q∧B (sg p x) q→E (sg p x)=true:=fun x _ hb=>h3 _ hb.1 hb.2
  have oldB':∀x,x<n→q<sg p x∧B q (sg p x)→E (sg p x)=false:=fun x hx hb=>h4 _ hb.1 (rm hpn hx) hb.2
  refine⟨fun hE=>?_,fun hE=>?_,fun hE1 hE2=>?_⟩
  ·have hqp:q≠p:=fun e=>by rw[e,hE]at h2;cases h2
   refine⟨h1,h2,fun x hx hb=>?_,fun x hx hxn hb=>?_,i1 (by simp[hE])⟩
   ·rcases hb with hb|⟨rfl,-⟩
    ·exact h3 x hx hb
    exact hE
   rcases hb with hb|⟨rfl,-⟩
   ·exact h4 x hx hxn hb
   exact absurd rfl hqp
  ·have hqp:q≠p+1:=fun e=>by rw[e,hE]at h2;cases h2
   refine⟨rm hpn h1,by show E (sg p (sg p q))=false;rw[gO];exact h2,fun x hx hb=>?_,fun x hx hxn hb=>?_,i2 (by simp[hE])⟩
   ·have hb:(sg p x<sg p (sg p q)∧B (sg p x) (sg p (sg p q)))∨(x=p∧sg p q=p+1):=hb;rw[gO]at hb;rcases hb with hb|⟨rfl,-⟩
    ·exact oldB x hx hb
    show E (sg _ _)=true;rw[sZ];exact hE
   have hb:(sg p (sg p q)<sg p x∧B (sg p (sg p q)) (sg p x))∨(sg p q=p∧x=p+1):=hb;rw[gO]at hb;rcases hb with hb|⟨hb,-⟩
   ·exact oldB' x hxn hb
   exact absurd (by rw[←gO p q,hb,sZ]) hqp
  by_cases hq1:q=p
  ·subst hq1;refine .inl ⟨h1,h2,fun x hx hb=>?_,fun x hx hxn hb=>?_,i1 (by simp)⟩
   ·rcases hb with hb|⟨rfl,e⟩
    ·exact h3 x hx hb
    omega
   rcases hb with hb|⟨-,rfl⟩
   ·exact h4 x hx hxn hb
   exact hE2
  by_cases hq2:q=p+1
  ·subst hq2;refine .inr ⟨rm hpn h1,by show E (sg p (sg p (p+1)))=false;rw[gO];exact h2,fun x hx hb=>?_,fun x hx hxn hb=>?_,i2 (by simp)⟩
   ·have hb:(sg p x<sg p (sg p (p+1))∧B (sg p x) (sg p (sg p (p+1))))∨(x=p∧sg p (p+1)=p+1):=hb;rw[gO]at hb;rcases hb with hb|⟨rfl,e⟩
    ·exact oldB x hx hb
    rw[ta]at e;omega
   have hb:(sg p (sg p (p+1))<sg p x∧B (sg p (sg p (p+1))) (sg p x))∨(sg p (p+1)=p∧x=p+1):=hb;rw[gO]at hb;rcases hb with hb|⟨-,rfl⟩
   ·exact oldB' x hxn hb
   show E (sg _ _)=false;rw[ta];exact hE1
  have hs:sg p q=q:=nZ hq1 hq2;have f1:(p==q)=false:=by simpa using fun e=>hq1 (Eq.symm e)
  have f2:(p+1==q)=false:=by simpa using fun e=>hq2 (Eq.symm e)
  rcases i3 (by simp[hE1,f1]) (by simp[hE2,f2]) with i|i
  ·refine .inl ⟨h1,h2,fun x hx hb=>?_,fun x hx hxn hb=>?_,i⟩
   ·rcases hb with hb|⟨-,e⟩
    ·exact h3 x hx hb
    exact absurd e hq2
   rcases hb with hb|⟨e,-⟩
   ·exact h4 x hx hxn hb
   exact absurd e hq1
  refine .inr ⟨rm hpn h1,by show E (sg p (sg p q))=false;rw[gO];exact h2,fun x hx hb=>?_,fun x hx hxn hb=>?_,i⟩
  ·have hb:(sg p x<sg p (sg p q)∧B (sg p x) (sg p (sg p q)))∨(x=p∧sg p q=p+1):=hb;rw[gO]at hb;rcases hb with hb|⟨-,e⟩
   ·exact oldB x hx hb
   exact absurd (hs.symm.trans e) hq2
  have hb:(sg p (sg p q)<sg p x∧B (sg p (sg p q)) (sg p x))∨(sg p q=p∧x=p+1):=hb;rw[gO]at hb;rcases hb with hb|⟨e,-⟩
  ·exact oldB' x hxn hb
  exact absurd (hs.symm.trans e) hq1
theorem lV {n m:Nat} {own:Nat→Bool} {al:List bx} {hs:List (Nat×Hint)} {F:Nat→AF} {M:Nat→AM} {V:Nat→AV} {R:Exit→AF→AM→Prop} {ft:Nat→dt} (hT:ku C n own ops al true hs F M V)
  (hft:∀k,k<ops.size→ft k=aV (M k) (aN (F k) (tmpsOf (al.getD k default).k)) (bF hs k) (al.getD k default).k)
  {B:Nat→Nat→Prop} (hd:∀p q,p<q→q<ops.size→lP (al.getD p default) (al.getD q default)=true→B p q)
  (hm:∀p q,p<q→q<ops.size→mT (al.getD p default) (al.getD q default)=true→B p q∨cv (ft p) (ft q)=true) (hR:R .normal (F ops.size) (M ops.size)) :
  ∀(L:List Nat) (E:Nat→Bool) (S1:Nat→Prop) (γ1:Gh) (w1:World) (a1:Act),(∀j k,j<k→k<ops.size→B j k→E k=true→E j=true)→Good ops.size B L E →
   Ext w S γ w1 S1 γ1→Wd C w0 S1 γ1 (dv (M 0) al ft M E ops.size) w1→FR C.D n w1 S1 γ1 (GF (F 0) al V E ops.size) a1 →
   wpOps C.P ops (Ends C n m w0 w S γ R) L a1 w1
 |[],E,S1,γ1,w1,a1,_,all,hE,hW,hF=>by
  have hGF:∀k,k≤ops.size→GF (F 0) al V E k=F k:=by
   intro k;induction k with
   |zero=>intro _;rfl
   |succ k ih =>
    intro hk;obtain⟨_,_,_,_,_,_,_,_,hFk⟩:=hT.at_ k (by omega);rw[GF,all k (by omega),cond_true,ih (by omega),hFk]
  have hGM:∀k,k≤ops.size→dv (M 0) al ft M E k=M k:=by
   intro k;induction k with
   |zero=>intro _;rfl
   |succ k ih =>
    intro hk;rw[dv,all k (by omega),Bool.true_and];obtain⟨_,_,_,_,_,hevk,_⟩:=hT.at_ k (by omega);cases he:eZ (al.getD k default).k with
    |true =>
     rw[cond_true,ih (by omega)];have hl:=mr hevk;rw[←hft k (by omega)]at hl;cases hf:ft k with
     |wr b l =>
      rw[hf]at hl;obtain⟨-,nb,h1,h2,-⟩:=hl;simp only[fj];rw[show(M (k+1))[b]?=some nb by rw[h2];exact List.getElem?_set_self h1];simp only;rw[h2]
     |al nb =>
      rw[hf]at hl;obtain⟨h0,x,h1,-⟩:=hl;simp only[fj];rw[show(M (k+1))[nb]?=some x by rw[h1,h0,List.getElem?_append_right (Nat.le_refl _),Nat.sub_self];rfl];simp only;rw[h1]
     |top=>rfl
     |big m n=>rfl
     |none=>rfl
     |rd l=>rfl
    |false =>
     rw[cond_false,ih (by omega)];exact(eW (by simpa [eZ]using he) hevk).symm
  rw[hGM _ (Nat.le_refl _)]at hW;rw[hGF _ (Nat.le_refl _)]at hF;exact⟨S1,γ1,_,_,hE.ue m,hW,hF,hR⟩
 |q::r,E,S1,γ1,w1,a1,hcl,⟨h1,h2,h3,h4,h5⟩,hE,hW,hF=>by
  rw[wpOps_cons];exact oU hT.b hft hd hm hcl h1 h2 rfl h3 h4 (fun _=>rfl) hW hF fun a' w' S' γ' hE' hW' hF' =>
   lV hT hft hd hm hR r _ S' γ' w' a' (fun j k hj hk hb hEk=>by
    simp only[Bool.or_eq_true,beq_iff_eq]at hEk ⊢;rcases hEk with hEk|hEk
    ·subst hEk;exact .inr (h3 j hj hb)
    exact .inr (hcl j k hj hk hb hEk)) h5 (hE.trans hE') hW' hF'
theorem rq {P:Program} {ops':Array Oper} {Q:Exit→Act→World→Prop} {p:Nat} (hat:∀j,ops'[j]?=ops[sg p j]?) (hg:∀(j:Nat) o g b,ops[j]?=some o→o.guard=some (g,b)→g≠p∧g≠p+1):∀(L:List Nat) (a:Act) (w:World),wpOps P ops' Q (L.map (sg p)) a w→wpOps P ops Q L a w
 |[],_,_,h=>h
 |i::r,a,w,h=>by
  rw[List.map_cons,wpOps_cons]at h;rw[wpOps_cons];have h:=wpOp_mono (fun a w=>rq hat hg r a w) h;unfold wpOp at h ⊢;rw[hat,gO]at h;cases ho:ops[i]? with
  |none=>rw[ho]at h;exact h
  |some o =>
   rw[ho]at h;have hw:Region.wanted o (yielded ops' a.tmps)=Region.wanted o (yielded ops a.tmps):=by
    unfold Region.wanted;cases hgd:o.guard with
    |none=>rfl
    |some gb =>
     obtain⟨g,b⟩:=gb;obtain⟨n1,n2⟩:=hg i o g b ho hgd;show(yielded ops' a.tmps g==some b)=(yielded ops a.tmps g==some b)
     unfold yielded;rw[hat,nZ n1 n2]
   simp only[hw]at h;exact h
theorem ob {P:Program} {own:Nat→Bool} {n:Nat} {o:Oper} {ao:bx} {g:Nat} {b:Bool} (hco:eu P own n ops o=some ao) (hg:o.guard=some (g,b)):∃t,(ops[g]?).bind (·.dst)=some t∧ao.guard=some (t,b):=by
 unfold eu at hco;rw[hg]at hco;split at hco
 ·cases hco
 split at hco
 ·rename_i h;cases h
 ·rename_i j want hd h;injection h with h
  injection h with h1 h2
  subst h1 h2;split at hco
  ·rename_i t ht;injection hco with hco
   subst hco;exact⟨t,ht,rfl⟩
  cases hco
 cases hco
theorem xU {P:Program} {own:Nat→Bool} {n:Nat} {o:Oper} {ops':Array Oper} (h:∀g b,o.guard=some (g,b)→ops'[g]?=ops[g]?):eu P own n ops' o=eu P own n ops o:=by
 unfold eu;cases hg:o.guard with
 |some gb =>
  obtain⟨g,b⟩:=gb;have:=h g b hg;cases hd:o.dst with
  |none=>dsimp only;rw[this]
  |some d =>
   dsimp only;cases hb:Nat.blt d n
   ·rfl
   dsimp only;rw[this]
 |none =>
  cases hd:o.dst with
  |none=>rfl
  |some d =>
   dsimp only;cases hb:Nat.blt d n<;>rfl
theorem tC {n:Nat} {own:Nat→Bool} {al:List bx} {hs:List (Nat×Hint)} {vc:VC} {pr:List Prop} {fs:List dt} {f':AF} {μ':AM} (hl:al.length=ops.size) (hat:∀(j:Nat) o,ops[j]?=some o→∃ao,al[j]?=some ao∧eu C.P own n ops o=some ao)
  (he:cA (ah C) (aA C) al hs 0 [] [] [] f μ=some (vc,pr,fs,f',μ')) (hvc:aI vc) (hpr:aP pr) :
  ∃F M V,F 0=f∧M 0=μ∧F ops.size=f'∧M ops.size=μ'∧ku C n own ops al true hs F M V∧∀k,k<ops.size→dp fs k=aV (M k) (aN (F k) (tmpsOf (al.getD k default).k)) (bF hs k) (al.getD k default).k:=by
 obtain⟨he0,hfs⟩:=ir al 0 [] [] [] f μ he;obtain⟨-,F,M,V,h1,h2,h3,h4,h5⟩:=da al 0 [] [] f μ vc pr f' μ' he0 hvc hpr;have hfs:=hfs F M V h1 h2 fun j ao hao=>by
  obtain⟨vcj,prj,k1,k2,k3,k4⟩:=h5 j ao hao;exact⟨vcj,prj,k1,k4⟩
 rw[Nat.zero_add]at h3 h4;refine⟨F,M,V,h1,h2,by rw[←hl];exact h3,by rw[←hl];exact h4,⟨hl,fun j hj=>?_⟩,fun k hk=>?_⟩
 ·have ho:ops[j]?=some ops[j]:=by simp[hj]
  obtain⟨ao,hao,hco⟩:=hat j ops[j] ho;obtain⟨vcj,prj,k1,k2,k3,k4⟩:=h5 j ao hao;rw[Nat.zero_add]at k1 k4;have hg:al.getD j default=ao:=by rw[List.getD,hao];rfl
  exact⟨_,vcj,prj,ho,by rw[hg];exact hco,by rw[hg];exact k1,k2,k3,by rw[hg];exact k4⟩
 rw[fA,hfs,List.nil_append,List.getD,List.getElem?_map,List.getElem?_range (by omega)];simp only[Option.map_some,Option.getD_some,Nat.zero_add]
theorem oX {M:Nat→AM} {al:List bx} {ft:Nat→dt}:∀k,dv (M 0) al ft M (fun _=>false) k=M 0
 |0=>rfl
 |k+1=>by rw[dv,Bool.false_and,cond_false,oX k]
theorem rr {F:Nat→AF} {al:List bx} {V:Nat→AV}:∀k,GF (F 0) al V (fun _=>false) k=F 0
 |0=>rfl
 |k+1=>by rw[GF,cond_false,rr k]
theorem ru {n:Nat} {B:Nat→Nat→Prop}:∀(L:List Nat) {E E':Nat→Bool},(∀j,j<n→E j=E' j)→Good n B L E→Good n B L E'
 |[],_,_,h,hg=>fun j hj=>(h j hj).symm.trans (hg j hj)
 |q::r,_,_,h,⟨h1,h2,h3,h4,h5⟩=>⟨h1,(h q h1).symm.trans h2,fun p hp hb=>(h p (by omega)).symm.trans (h3 p hp hb),fun p hp hps hb=>(h p hps).symm.trans (h4 p hp hps hb),
  ru r (fun j hj=>by rw[h j hj]) h5⟩
theorem v8 {n m id p:Nat} {own:Nat→Bool} {al:List bx} {hs hs2:List (Nat×Hint)} {vc vc2:VC} {pr pr2:List Prop} {fs fs2:List dt} {f' f2:AF} {μ' μ2:AM} {R:Exit→AF→AM→Prop} (hc:dM C.P own n ops ops.toList=some al) (hd:mU ops.toList al=true) (hsw:xT p al=true)
  (he:cA (ah C) (aA C) al hs 0 [] [] [] f μ=some (vc,pr,fs,f',μ')) (hvc:aI vc) (hpr:aP pr) (hfree:eK fs (rn p (gv ops.toList al))=true) (hR:R .normal f' μ')
  (he2:cA (ah C) (aA C) (lC p al) hs2 0 [] [] [] f μ=some (vc2,pr2,fs2,f2,μ2)) (hvc2:aI vc2) (hpr2:aP pr2) (hfree2:eK fs2 (rp p (gv ops.toList al))=true) (hR2:R .normal f2 μ2):AW C n m (.region id ops true) R f μ:=by
 intro w0 S γ w a hW hF;obtain⟨hl,hat⟩:=dQ hc;replace hl:al.length=ops.size:=hl.trans (Array.length_toList);simp only[mU,Bool.and_eq_true]at hd;simp only[xT,Bool.and_eq_true]at hsw;have hpn:p+1<al.length:=Nat.blt_eq.mp hsw.1;have hdep:∀p q,p<q→q<ops.size→lP (al.getD p default) (al.getD q default)=true→bd ops p q:=fun p q hpq hq hdp=>by
  have h6:=List.all_eq_true.mp hd.2 q (List.mem_range.mpr (by omega));have h7:=List.all_eq_true.mp h6 p (List.mem_range.mpr hpq);rw[hdp]at h7;show((dR ops.toList []).getD q 0).testBit p=true;simpa using h7
 have hgd:∀(j:Nat) o g b,ops[j]?=some o→o.guard=some (g,b)→g≠p∧g≠p+1:=fun j o g b ho hg=>by
  obtain⟨ao,hao,hco⟩:=hat j o (by rw[Array.getElem?_toList];exact ho);have h6:=List.all_eq_true.mp hsw.2 ao (List.mem_of_getElem? hao);have key:∀k,g=k→k<al.length→∃t,ao.guard=some (t,b)∧(al.getD k default).dst=some t:=fun k hk hkl=>by
   subst hk;have hok:ops[g]?=some ops[g]:=by simp[←hl,hkl]
   obtain⟨ak,hak,hck⟩:=hat g ops[g] (by rw[Array.getElem?_toList];exact hok);have e:al.getD g default=ak:=by rw[List.getD,hak];rfl
   rw[e];obtain⟨_,_,hdst,-⟩:=cJ hck;obtain⟨t,ht,hgt⟩:=ob hco hg;rw[hok]at ht;exact⟨t,hgt,by first|exact hdst.symm.trans ht|exact hdst.trans ht|(rw[hdst];exact ht)⟩
  refine⟨fun e=>?_,fun e=>?_⟩
  ·obtain⟨t,h7,h8⟩:=key p e (by omega);rw[h7]at h6;simp only[h8,Bool.and_eq_true]at h6;simp at h6
  obtain⟨t,h7,h8⟩:=key (p+1) e (by omega);rw[h7]at h6;simp only[h8,Bool.and_eq_true]at h6;simp at h6
 obtain⟨hW1,hE1⟩:=hW.drew;refine wp_region_draw fun t=>?_
 simp only[Region.schedule,C.mixed,Bool.true_or,if_true];have hpath:=vZ (ops:=ops) ops.size t (Array.replicate ops.size false) (by simp) (Nat.le_trans (List.countP_le_length) (by simp));have hgood:=ru _ (E':=fun _=>false) (fun j hj=>by simp[Array.getD,hj]) (tA hd.1 _ _ (by simp) (fun j o ho hj=>by
  have hjs:j<ops.size:=by
   apply Classical.byContradiction;intro hn;rw[Array.getElem?_eq_none (by omega)]at ho;cases ho
  simp[Array.getD,hjs]at hj) hpath)
 rcases(v7 (p:=p) (by omega) _ _ hgood).2.2 rfl rfl with hg|hg
 ·obtain⟨F,M,V,h1,h2,h3,h4,hT,hft⟩:=tC hl (fun j o ho=>hat j o (by rw[Array.getElem?_toList];exact ho)) he hvc hpr;refine lV hT hft (fun x y hx hy hdp=>.inl (hdep x y hx hy hdp)) (fun x y hx hy hdp=>?_) (by rw[h3,h4];exact hR) _ _ S γ w.drew a (fun _ _ _ _ _ h=>absurd (show false=true from h) Bool.false_ne_true) hg hE1 (by rw[oX,h2];exact hW1) (by rw[rr,h1];exact hF.drew hE1);by_cases hxy:x=p∧y=p+1
  ·exact .inl (.inr hxy)
  cases hb:((dR ops.toList []).getD y 0).testBit x with
  |true=>exact .inl (.inl hb)
  |false=>exact .inr (iT hfree x y (tx hxy (gF hx (by omega) hdp hb)))
 have hops:∀j,(lC p ops.toList).toArray[j]?=ops[sg p j]?:=fun j=>by
  rw[List.getElem?_toArray,oa p _ j (by rw[Array.length_toList];omega),Array.getElem?_toList]
 have hal:∀j,(lC p al).getD j default=al.getD (sg p j) default:=fun j=>by
  rw[List.getD,oa p al j hpn,List.getD]
 have hsz:(lC p ops.toList).toArray.size=ops.size:=by rw[List.size_toArray,oW,Array.length_toList]
 refine rq hops hgd _ _ _ ?_;obtain⟨F,M,V,h1,h2,h3,h4,hT,hft⟩:=tC (C:=C) (ops:=(lC p ops.toList).toArray) (n:=n) (own:=own) (by rw[oW,hl,hsz]) (fun j o ho=>by
  rw[hops]at ho;obtain⟨ao,hao,hco⟩:=hat _ o (by rw[Array.getElem?_toList];exact ho);refine⟨ao,by rw[oa p al j hpn];exact hao,?_⟩;rw[←hco];exact xU fun g b hg=>by
   obtain⟨n1,n2⟩:=hgd _ o g b ho hg;rw[hops,nZ n1 n2]) he2 hvc2 hpr2
 rw[hsz]at hft h3 h4;refine lV hT (by rw[hsz];exact hft) (fun x y hx hy hdp=>?_) (fun x y hx hy hdp=>?_) (by rw[hsz,h3,h4];exact hR2) _ _ S γ w.drew a (fun _ _ _ _ _ h=>absurd (show false=true from h) Bool.false_ne_true) (by rw[hsz];exact hg) hE1 (by rw[oX,h2];exact hW1) (by rw[rr,h1];exact hF.drew hE1)
 ·rw[hsz]at hy;rw[hal,hal]at hdp;by_cases hxy:x=p∧y=p+1
  ·exact .inr hxy
  have hlt:=y6 hx hxy;exact .inl ⟨hlt,hdep _ _ hlt (rm (by omega) hy) hdp⟩
 rw[hsz]at hy;rw[hal,hal]at hdp;by_cases hxy:x=p∧y=p+1
 ·exact .inl (.inr hxy)
 have hlt:=y6 hx hxy;cases hb:((dR ops.toList []).getD (sg p y) 0).testBit (sg p x) with
 |true=>exact .inl (.inl ⟨hlt,hb⟩)
 |false =>
  have hlt2:sg p y<al.length:=by rw[hl];exact rm (by omega) hy
  have hn:¬(sg p x=p∧sg p y=p+1):=fun ⟨e1,e2⟩=>by
   have e3:=gO p x;have e4:=gO p y;rw[e1,sZ]at e3;rw[e2,ta]at e4;omega
  have:=iT hfree2 _ _ (tz hn (gF hlt hlt2 hdp hb));rw[gO,gO]at this;exact .inr this
variable {own:Nat→Bool} {n m:Nat} {R:Exit→AF→AM→Prop}
theorem HW (p:Nat) {al:List bx} {free:List (Nat×Nat)} (hs hs2:List (Nat×Hint)) {y:af} (hsw:xT p al=true)
  (h1:fg (rn p free) (fun f μ=>Aw C own n m y R f μ) (cA (ah C) (aA C) al hs 0 [] [] [] f μ))
  (h2:fg (rp p free) (fun f μ=>Aw C own n m y R f μ) (cA (ah C) (aA C) (lC p al) hs2 0 [] [] [] f μ)):Aw C own n m (.seq (.regionF al free) y) R f μ:=by
 refine cK ?_;intro c hc;obtain⟨id,ops,rfl,g1,g2,rfl⟩:=kz hc;unfold fg at h1 h2;split at h1
 ·rename_i he;split at h2
  ·rename_i he2;exact v8 g1 g2 hsw he h1.1 h1.2.1 h1.2.2.1 h1.2.2.2 he2 h2.1 h2.2.1 h2.2.2.1 h2.2.2.2
  exact h2.elim
 exact h1.elim
end
end
section
def BZ (C:Ctx) (f:FuncId) (as:List AV) (μ:AM) (c:List PanicEntry) (Post:AM→Prop):Prop :=
 eU C.P f=true∧∀(w0:World) (S:Nat→Prop) (γ:Gh) (w:World) (vs:List Value),Wd C w0 S γ μ w→PW (VR w S γ) as vs →
  Calls C.P f vs.toArray w fun e w'=>∃S' γ' μ',e= .panicked c∧Ext w S γ w' S' γ'∧Wd C w0 S' γ' μ' w'∧Post μ'
def B4 (f:AF):K→Option (FuncId×List AV)
 | .call g as=>some (g,as.map (ev f))
 | .callv x as=>match ev f x with
  | .fn g caps=>some (g,as.map (ev f)++caps)
  | .bm g first=>some (g,first++as.map (ev f))
  | .pv (.val (.func (.func g) a b))=>match a.toList,b.toList with
   |[],[]=>some (g,as.map (ev f))
   |_,_=>none
  |_=>none
 |_=>none
section
variable {C:Ctx} {w0 w:World} {S:Nat→Prop} {γ:Gh} {μ:AM} {f:AF} {a:Act} {o:Oper} {ops:Array Oper}
variable {own:Nat→Bool} {n m:Nat} {R:Exit→AF→AM→Prop}
end
end
section
section
variable {C:Ctx} {w0 w:World} {S:Nat→Prop} {γ:Gh} {μ:AM} {f:AF} {a:Act} {o:Oper} {ops:Array Oper}
variable {own:Nat→Bool} {n m:Nat} {R:Exit→AF→AM→Prop}
end
end
section
def xV (al:List bx):Bool:=(List.range (al.length-1)).all fun p=>(List.range al.length).any fun q=>Nat.blt p q&&lP (al.getD p default) (al.getD q default)
section
variable {C:Ctx} {w0 w:World} {S:Nat→Prop} {γ:Gh} {μ:AM} {f:AF} {a:Act} {o:Oper} {ops:Array Oper}
theorem xW {n m L:Nat} {own:Nat→Bool} {al:List bx} {hs:List (Nat×Hint)} {F:Nat→AF} {M:Nat→AM} {V:Nat→AV} {R:Exit→AF→AM→Prop} {ft:Nat→dt} (hT:nT C n own ops al hs F M V (fun j=>j==L)) (hL:L+1=ops.size)
  (hft:∀k,k<ops.size→ft k=aV (M k) (aN (F k) (tmpsOf (al.getD k default).k)) (bF hs k) (al.getD k default).k)
  (hedge:gE ops.toList 0=true) (hd:∀p q,p<q→q<ops.size→lP (al.getD p default) (al.getD q default)=true→((dR ops.toList []).getD q 0).testBit p=true)
  (hm:∀p q,p<q→q<L→mT (al.getD p default) (al.getD q default)=true→((dR ops.toList []).getD q 0).testBit p=true∨cv (ft p) (ft q)=true)
  (htl:∀p,p<L→∃q,p<q∧q<ops.size∧lP (al.getD p default) (al.getD q default)=true)
  (hlast:∀(o:Oper) (S1:Nat→Prop) (γ1:Gh) (w1:World) (a1:Act) (K':Act→World→Prop),ops[L]?=some o→eu C.P own n ops o=some (al.getD L default)→Ext w S γ w1 S1 γ1→Wd C w0 S1 γ1 (M L) w1→FR C.D n w1 S1 γ1 (F L) a1 →
   (∀a' w',Ends C n m w0 w S γ R .normal a' w'→K' a' w')→ly C.P ops o a1 w1 K' (Ends C n m w0 w S γ R)) :
  ∀(fuel:Nat) (listed:Array Bool) (S1:Nat→Prop) (γ1:Gh) (w1:World) (a1:Act),listed.size=ops.size→listed.getD L true=false→(List.range ops.size).countP (fun i=>!listed.getD i true)≤fuel →
   (∀(j:Nat) o,ops[j]?=some o→listed.getD j true=true→∀e∈o.after.toList,Region.binds .any e=true→listed.getD e.on true=true) →
   Ext w S γ w1 S1 γ1→Wd C w0 S1 γ1 (dv (M 0) al ft M (fun j=>listed.getD j true) ops.size) w1→FR C.D n w1 S1 γ1 (GF (F 0) al V (fun j=>listed.getD j true) ops.size) a1 →
   wpAny C.P .any ops (Ends C n m w0 w S γ R) fuel listed a1 w1:=by
 have hkl:L<ops.size:=by omega
 have edge:∀(j:Nat) o,ops[j]?=some o→∀e∈o.after.toList,Region.binds .any e=true→e.on<j:=fun j o ho e he hb=>by
  have:=gu ops.toList hedge (by rw[Array.getElem?_toList];exact ho) e he hb;omega
 have go:∀(listed:Array Bool),listed.size=ops.size→listed.getD L true=false→Region.ready .any ops listed≠[]:=by
  intro listed hsz hk hnil;have all:∀j,j<ops.size→listed.getD j true=true:=by
   intro j;induction j using Nat.strongRecOn with
   |_ j ih =>
    intro hj;cases hl:listed.getD j true with
    |true=>rfl
    |false =>
     have ho:ops[j]?=some ops[j]:=by simp[hj]
     have:j∈Region.ready .any ops listed:=cN.mpr ⟨hj,hl,_,ho,fun e he hb=>by
      have h1:=edge j _ ho e he hb;have h2:=ih e.on h1 (by omega);have hlt:e.on<listed.size:=by omega
      simpa [Array.getD,hlt]using h2⟩
     rw[hnil]at this;cases this
  rw[all L hkl]at hk;cases hk
 intro fuel;induction fuel with
 |zero =>
  intro listed S1 γ1 w1 a1 hsz hk hcnt hcl hE hW hF;exfalso;have:0<(List.range ops.size).countP (fun i=>!listed.getD i true):=List.countP_pos_iff.mpr ⟨L,List.mem_range.mpr hkl,by rw[hk];rfl⟩;omega
 |succ fuel ih =>
  intro listed S1 γ1 w1 a1 hsz hk hcnt hcl hE hW hF;refine⟨fun hnil=>absurd hnil (go listed hsz hk),fun q hq=>?_⟩;obtain⟨h1,h2,o,ho,h3⟩:=cN.mp hq;have hset:∀j,(listed.setIfInBounds q true).getD j true=(j==q||listed.getD j true):=fun j=>by
   by_cases hjq:j=q
   ·subst hjq;simp[Array.getD,hsz,h1]
   rw[show(j==q)=false by simpa using hjq,Bool.false_or];simp only[Array.getD_eq_getD_getElem?];rw[Array.getElem?_setIfInBounds_ne (Ne.symm hjq)]
  have hqE:∀e:Nat,e<ops.size→listed.getD e false=true→listed.getD e true=true:=fun e he h=>by
   have hlt:e<listed.size:=by omega
   simpa [Array.getD,hlt]using h
  have hrq:∀o,ops[q]?=some o→∀e∈o.after.toList,Region.binds .any e=true→listed.getD e.on true=true:=fun o' ho' e he hb=>by
   rw[ho]at ho';injection ho' with ho';subst ho'
   have:=edge q o ho e he hb;exact hqE e.on (by omega) (h3 e he hb)
  have beforeO:∀p,p<q→((dR ops.toList []).getD q 0).testBit p=true→listed.getD p true=true:=fun p hp hb =>
   ahead (E:=fun j=>listed.getD j true=true) (fun j o h1 h2 e h3 h4=>hcl j o (by rw[Array.getElem?_toList]at h1;exact h1) h2 e h3 h4) q o (by rw[Array.getElem?_toList];exact ho) (hrq o ho) p hb
  have closed:∀j k,j<k→k<ops.size→((dR ops.toList []).getD k 0).testBit j=true→listed.getD k true=true→listed.getD j true=true:=fun j k hj hk hb hE=>by
   obtain⟨ok,_,_,hok,-⟩:=hT.at_ k hk;exact ahead (E:=fun j=>listed.getD j true=true) (fun j o h1 h2 e h3 h4=>hcl j o (by rw[Array.getElem?_toList]at h1;exact h1) h2 e h3 h4) k ok (by rw[Array.getElem?_toList];exact hok) (hcl k ok hok hE) j hb
  by_cases hqk:q=L
  ·
   have all:∀d p,p+d+1=L→listed.getD p true=true:=by
    intro d;induction d using Nat.strongRecOn with
    |_ d ihd =>
     intro p hp;obtain⟨r,hr1,hr2,hr3⟩:=htl p (by omega);have hb:=hd p r hr1 hr2 hr3;by_cases hrL:r=L
     ·subst hrL;subst hqk;exact beforeO p hr1 hb
     exact closed p r hr1 hr2 hb (ihd (L-r-1) (by omega) r (by omega))
   replace all:∀p,p<L→listed.getD p true=true:=fun p hp=>all (L-p-1) p (by omega)
   have hGF:∀k,k≤L→GF (F 0) al V (fun j=>listed.getD j true) k=F k:=by
    intro k;induction k with
    |zero=>intro _;rfl
    |succ k ih =>
     intro hk;obtain⟨_,_,_,_,_,_,_,_,hFk⟩:=hT.at_ k (by omega);rw[GF,all k (by omega),cond_true,ih (by omega),hFk]
   have hGM:∀k,k≤L→dv (M 0) al ft M (fun j=>listed.getD j true) k=M k:=by
    intro k;induction k with
    |zero=>intro _;rfl
    |succ k ih =>
     intro hk;rw[dv,all k (by omega),Bool.true_and];obtain⟨_,_,_,_,_,hevk,_⟩:=hT.at_ k (by omega);cases he:eZ (al.getD k default).k with
     |true =>
      rw[cond_true,ih (by omega)];have hl:=mr hevk;rw[←hft k (by omega)]at hl;cases hf:ft k with
      |wr b l =>
       rw[hf]at hl;obtain⟨-,nb,h1,h2,-⟩:=hl;simp only[fj];rw[show(M (k+1))[b]?=some nb by rw[h2];exact List.getElem?_set_self h1];simp only;rw[h2]
      |al nb =>
       rw[hf]at hl;obtain⟨h0,x,h1,-⟩:=hl;simp only[fj];rw[show(M (k+1))[nb]?=some x by rw[h1,h0,List.getElem?_append_right (Nat.le_refl _),Nat.sub_self];rfl];simp only;rw[h1]
      |top=>rfl
      |big m n=>rfl
      |none=>rfl
      |rd l=>rfl
     |false =>
      rw[cond_false,ih (by omega)];exact(eW (by simpa [eZ]using he) hevk).symm
   subst hqk;have e1:dv (M 0) al ft M (fun j=>listed.getD j true) ops.size=M q:=by
    rw[←hL,dv,h2,Bool.false_and,cond_false];exact hGM q (Nat.le_refl _)
   have e2:GF (F 0) al V (fun j=>listed.getD j true) ops.size=F q:=by
    rw[←hL,GF,h2,cond_false];exact hGF q (Nat.le_refl _)
   rw[e1]at hW;rw[e2]at hF;obtain⟨o',vc,pr,ho',hco,-⟩:=hT.at_ q h1;refine dd ho' (hlast o' S1 γ1 w1 a1 _ ho' hco hE hW hF fun a' w' hQ=>?_);have hnil:Region.ready .any ops (listed.setIfInBounds q true)=[]:=by
    cases hr:Region.ready .any ops (listed.setIfInBounds q true) with
    |nil=>rfl
    |cons i r =>
     have hi:i∈Region.ready .any ops (listed.setIfInBounds q true):=by rw[hr];exact List.mem_cons_self
     obtain⟨g1,g2,-⟩:=cN.mp hi;rw[hset]at g2;by_cases hiq:i=q
     ·subst hiq;simp at g2
     rw[all i (by omega),Bool.or_true]at g2;cases g2
   cases fuel with
   |zero=>exact⟨hnil,hQ⟩
   |succ fuel=>exact⟨fun _=>hQ,fun i hi=>by rw[hnil]at hi;cases hi⟩
  have hql:q<L:=by omega
  have behindO:∀p,q<p→p<ops.size→((dR ops.toList []).getD p 0).testBit q=true→listed.getD p true=false:=fun p hp hps hb=>by
   cases hEp:listed.getD p true with
   |false=>rfl
   |true =>
    have:=closed q p hp hps hb hEp;rw[this]at h2;cases h2
  refine oU hT hft (B:=fun p q=>((dR ops.toList []).getD q 0).testBit p=true∨q=L) (fun p q h1 h2 h3=>.inl (hd p q h1 h2 h3)) (fun p r h1 h2 h3=>?_) (E:=fun j=>listed.getD j true) ?_ h1 h2 (by simpa using hqk) ?_ ?_ (E':=fun j=>(listed.setIfInBounds q true).getD j true) hset hW hF fun a' w' S' γ' hE' hW' hF'=>?_
  ·by_cases hrL:r=L
   ·exact .inl (.inr hrL)
   exact(hm p r h1 (by omega) h3).imp .inl id
  ·intro j r hj hr hb hEr;rcases hb with hb|hb
   ·exact closed j r hj hr hb hEr
   rw[hb,hk]at hEr;cases hEr
  ·intro p hp hb;rcases hb with hb|hb
   ·exact beforeO p hp hb
   exact absurd hb hqk
  ·intro p hp hps hb;rcases hb with hb|hb
   ·exact behindO p hp hps hb
   rw[hb];exact hk
  refine ih (listed.setIfInBounds q true) S' γ' w' a' (by simp[hsz]) (by rw[hset,hk,Bool.or_false];simpa using Ne.symm hqk) ?_ ?_ (hE.trans hE') hW' hF'
  ·have:=fy (p:=fun i=>!listed.getD i true) (q:=fun i=>!(listed.setIfInBounds q true).getD i true) (List.range ops.size) (List.mem_range.mpr h1) (by simp[h2]) (by rw[hset];simp) (fun j hj=>by
    rw[hset]at hj;simp only[Bool.not_or,Bool.and_eq_true]at hj;exact hj.2)
   omega
  intro j oj hoj hj e he hb;rw[hset]at hj ⊢;simp only[Bool.or_eq_true,beq_iff_eq]at hj ⊢;rcases hj with hj|hj
  ·subst hj;exact .inr (hrq oj hoj e he hb)
  exact .inr (hcl j oj hoj hj e he hb)
def bR (X:FuncId→List PV→PV→Prop) (Y:FuncId→List AV→AM→AV→AM→Prop) (T:vn) (H:List (Nat×Hint)):List bx→VC→List Prop→List dt→AF→AM→Option (VC×List Prop×List dt×AF×AM)
 |[],_,_,_,_,_=>none
 |o::os,vc,pr,fs,f,μ=>match os with
  |[]=>match cI X Y true true f μ o {val:=some .any,ro:=true} with
   |some _=>match ff X Y false false f μ o (eN T (eO H o.dst) f μ o.k) with
    |some (vc',pr',f',μ')=>some (vc'++vc,pr'++pr,fs,f',μ')
    |none=>none
   |none=>none
  |_::_=>match ff X Y true true f μ o (eN T (eO H o.dst) (strip true f o.k) μ o.k) with
   |some (vc',pr',f',μ')=>bR X Y T H os (vc'++vc) (pr'++pr) (fs++[aV μ (aN f (tmpsOf o.k)) (eN T (eO H o.dst) (strip true f o.k) μ o.k) o.k]) f' μ'
   |none=>none
theorem jS {X:FuncId→List PV→PV→Prop} {Y:FuncId→List AV→AM→AV→AM→Prop} {T:vn} {H:List (Nat×Hint)}:∀(al:List bx) (i:Nat) (vc:VC) (pr:List Prop) (fs:List dt) (f:AF) (μ:AM) (vcF:VC) (prF:List Prop) (fsF:List dt) (f':AF) (μ':AM),
  bR X Y T H al vc pr fs f μ=some (vcF,prF,fsF,f',μ')→∃al0 x hs h vc1 pr1 f1 μ1 vc2 pr2 q,al=al0++[x]∧cA X Y al0 hs i vc pr fs f μ=some (vc1,pr1,fsF,f1,μ1)∧cI X Y true true f1 μ1 x {val:=some .any,ro:=true}=some q ∧
   ff X Y false false f1 μ1 x h=some (vc2,pr2,f',μ')∧vcF=vc2++vc1∧prF=pr2++pr1
 |[],_,_,_,_,_,_,_,_,_,_,_,h=>by simp[bR]at h
 |o::os,i,vc,pr,fs,f,μ,vcF,prF,fsF,f',μ',h=>by
  cases os with
  |nil =>
   simp only[bR]at h;split at h
   ·rename_i q hq;split at h
    ·rename_i vc' pr' f1 μ1 he;injection h with h;injection h with h1 h;injection h with h2 h;injection h with h3 h;injection h with h4 h5
     subst h1 h2 h3 h4 h5;exact⟨[],o,[],_,vc,pr,f,μ,vc',pr',q,rfl,rfl,hq,he,rfl,rfl⟩
    cases h
   cases h
  |cons o2 os =>
   rw[bR]at h;split at h
   ·rename_i vc' pr' f1 μ1 he;obtain⟨al0,x,hs,hh,vc1,pr1,f2,μ2,vc2,pr2,q,e1,e2,e3,e4,e5,e6⟩:=jS (o2::os) (i+1) _ _ _ _ _ _ _ _ _ _ h;refine⟨o::al0,x,(i,eN T (eO H o.dst) (strip true f o.k) μ o.k)::hs,hh,vc1,pr1,f2,μ2,vc2,pr2,q,by rw[e1];rfl,?_,e3,e4,e5,e6⟩;simp only[cA,bZ,he];rw[←e2];exact iu al0 (i+1) _ _ _ _ _ fun j hj=>dA (by omega)
   cases h
theorem wc {n m:Nat} {own:Nat→Bool} {al:List bx} {x:bx} {free:List (Nat×Nat)} {hs:List (Nat×Hint)} {h:Hint} {vc vc2:VC} {pr pr2:List Prop} {fs:List dt} {f1 f':AF} {μ1 μ':AM} {q:VC×List Prop×AV×AM} {R:Exit→AF→AM→Prop} (ht:xV (al++[x])=true)
  (he:cA (ah C) (aA C) al hs 0 [] [] [] f μ=some (vc,pr,fs,f1,μ1)) (hvc:aI vc) (hpr:aP pr) (hfree:eK fs free=true) (heq:cI (ah C) (aA C) true true f1 μ1 x {val:=some .any,ro:=true}=some q)
  (he2:ff (ah C) (aA C) false false f1 μ1 x h=some (vc2,pr2,f',μ')) (hvc2:aI vc2) (hpr2:aP pr2) (hR:R .normal f' μ'):Aw C own n m (.regionF (al++[x]) free) R f μ:=by
 intro c hc0;obtain⟨id,ops,rfl,hc,hd,rfl⟩:=kz hc0;intro w0 S γ w a hW hF;obtain⟨ea,hfa⟩:=ir al 0 [] [] [] f μ he;obtain⟨-,Fa,Ma,Va,a1,a2,a3,a4,a5⟩:=da al 0 [] [] f μ vc pr f1 μ1 ea hvc hpr;have hfa:=hfa Fa Ma Va a1 a2 fun j ao hao=>by
  obtain⟨vcj,prj,k1,k2,k3,k4⟩:=a5 j ao hao;exact⟨vcj,prj,k1,k4⟩
 obtain⟨hl,hat⟩:=dQ hc;replace hl:(al++[x]).length=ops.size:=hl.trans (Array.length_toList);have hl2:al.length+1=ops.size:=by rw[←hl];simp
 rw[Nat.zero_add]at a3 a4;obtain⟨vq,pq,vq3,μq⟩:=q;have hg1:∀j,j<al.length→(al++[x]).getD j default=al.getD j default:=fun j hj=>by simp[List.getD,List.getElem?_append_left hj]
 have hg2:(al++[x]).getD al.length default=x:=by simp[List.getD]
 have hh1:∀j,j<al.length→bF ((al.length,{val:=some .any,ro:=true})::hs) j=bF hs j:=fun j hj=>dA (by omega)
 have hh2:bF ((al.length,{val:=some .any,ro:=true})::hs) al.length={val:=some .any,ro:=true}:=bZ;have hT:nT C n own ops (al++[x]) ((al.length,{val:=some .any,ro:=true})::hs) (fun j=>if j≤al.length then Fa j else put f1 x.dst vq3) (fun j=>if j≤al.length then Ma j else μq) (fun j=>if j<al.length then Va j else vq3) (fun j=>j==al.length):=⟨hl,fun j hj=>by
  have ho:ops[j]?=some ops[j]:=by simp[hj]
  obtain⟨ao,hao,hco⟩:=hat j ops[j] (by rw[Array.getElem?_toList];exact ho);have hgj:(al++[x]).getD j default=ao:=by rw[List.getD,hao];rfl
  by_cases hja:j<al.length
  ·obtain⟨vcj,prj,k1,k2,k3,k4⟩:=a5 j ao (by rw[List.getElem?_append_left hja]at hao;exact hao);rw[Nat.zero_add]at k1 k4;refine⟨_,vcj,prj,ho,by rw[hgj];exact hco,?_,fun _=>k2,fun _=>k3,?_⟩
   ·simp only[if_pos (show j≤al.length by omega),if_pos hja,if_pos (show j+1≤al.length by omega)];rw[hgj,hh1 j hja];exact k1
   simp only[if_pos (show j≤al.length by omega),if_pos hja,if_pos (show j+1≤al.length by omega)];rw[hgj];exact k4
  obtain rfl:j=al.length:=by omega
  rw[hg2]at hgj;subst hgj;refine⟨_,vq,pq,ho,by rw[hg2];exact hco,?_,(fun h=>by simp at h),(fun h=>by simp at h),?_⟩
  ·simp only[Nat.le_refl,if_true,Nat.lt_irrefl,if_false,if_neg (show ¬al.length+1≤al.length by omega)];rw[hg2,hh2,a3,a4];exact heq
  simp only[Nat.le_refl,if_true,Nat.lt_irrefl,if_false,if_neg (show ¬al.length+1≤al.length by omega)];rw[hg2,a3]⟩
 have hft:∀j,j<ops.size→dp (fs++[aV μ1 (aN f1 (tmpsOf x.k)) {val:=some .any,ro:=true} x.k]) j=aV (if j≤al.length then Ma j else μq) (aN (if j≤al.length then Fa j else put f1 x.dst vq3) (tmpsOf ((al++[x]).getD j default).k)) (bF ((al.length,{val:=some .any,ro:=true})::hs) j) ((al++[x]).getD j default).k:=fun j hj=>by
  rw[fA,hfa,List.nil_append,List.getD];by_cases hja:j<al.length
  ·rw[List.getElem?_append_left (by simpa using hja),List.getElem?_map,List.getElem?_range hja];simp only[Option.map_some,Option.getD_some,Nat.zero_add];rw[if_pos (by omega),if_pos (by omega),hh1 j hja,hg1 j hja]
  obtain rfl:j=al.length:=by omega
  rw[List.getElem?_append_right (by simp),if_pos (Nat.le_refl _),if_pos (Nat.le_refl _),hh2,hg2,a3,a4];simp
 simp only[mU,Bool.and_eq_true]at hd;have hdep:∀p q,p<q→q<ops.size→lP ((al++[x]).getD p default) ((al++[x]).getD q default)=true→((dR ops.toList []).getD q 0).testBit p=true:=fun p q hpq hq hdp=>by
  have h6:=List.all_eq_true.mp hd.2 q (List.mem_range.mpr (by omega));have h7:=List.all_eq_true.mp h6 p (List.mem_range.mpr hpq);rw[hdp]at h7;simpa using h7
 have hfl:fs.length=al.length:=by rw[hfa];simp
 have hm:∀p q,p<q→q<al.length→mT ((al++[x]).getD p default) ((al++[x]).getD q default)=true→((dR ops.toList []).getD q 0).testBit p=true∨cv (dp (fs++[aV μ1 (aN f1 (tmpsOf x.k)) {val:=some .any,ro:=true} x.k]) p) (dp (fs++[aV μ1 (aN f1 (tmpsOf x.k)) {val:=some .any,ro:=true} x.k]) q)=true:=fun p q hpq hq hdp=>by
  cases hb:((dR ops.toList []).getD q 0).testBit p with
  |true=>exact .inl rfl
  |false =>
   refine .inr ?_;have h8:=iT hfree p q (gF hpq (by omega) hdp hb);rw[fA,fA]at h8 ⊢;rw[List.getD,List.getD,List.getElem?_append_left (by omega),List.getElem?_append_left (by omega)];exact h8
 have htl:∀p,p<al.length→∃q,p<q∧q<ops.size∧lP ((al++[x]).getD p default) ((al++[x]).getD q default)=true:=fun p hp=>by
  unfold xV at ht;have h6:=List.all_eq_true.mp ht p (List.mem_range.mpr (by rw[hl];omega));obtain⟨q,hq1,hq2⟩:=List.any_eq_true.mp h6;simp only[Bool.and_eq_true]at hq2;exact⟨q,Nat.blt_eq.mp hq2.1,by rw[←hl];exact List.mem_range.mp hq1,hq2.2⟩
 obtain⟨hW1,hE1⟩:=hW.drew;refine wp_region_any C.mixed (xW (m:=m) (R:=R) hT hl2 hft hd.1 hdep hm htl ?_ ops.size (Array.replicate ops.size false) S γ w.drew a (by simp) (by simp[Array.getD];omega) (Nat.le_trans (List.countP_le_length) (by simp)) ?_ hE1 ?_ ?_)
 ·intro o S1 γ1 w1 a1 K' ho hco hE hW1 hF1 hK;simp only[Nat.le_refl,if_true]at hW1 hF1;rw[a4]at hW1;rw[a3]at hF1;rw[hg2]at hco;unfold ff at he2;cases hv:cI (ah C) (aA C) false false f1 μ1 x h with
  |none=>rw[hv]at he2;cases he2
  |some qq =>
   obtain⟨vc3,pr3,v,μ3⟩:=qq;rw[hv]at he2;simp only at he2;obtain⟨rfl,rfl,rfl,rfl⟩:=cD he2;obtain⟨-,-,hdst,hlt,-⟩:=cJ hco;refine bL hW1 hco hv hvc2 hpr2 (fun t _=>hF1.val t) fun u w2 S2 γ2 hE2 hW2 hvu=>hK _ _ ?_
   refine⟨S2,γ2,_,_,(hE.trans hE2).ue m,hW2,?_,hR⟩;rw[hdst];exact(hF1.ext hE2).put hvu hlt
 ·intro j o ho hj;have hjs:j<ops.size:=by
   apply Classical.byContradiction;intro hn;rw[Array.getElem?_eq_none (by omega)]at ho;cases ho
  simp[Array.getD,hjs]at hj
 ·have:∀(N:Nat→AM) (ft:Nat→dt) i,i≤ops.size→dv (N 0) (al++[x]) ft N (fun j=>(Array.replicate ops.size false).getD j true) i=N 0:=by
   intro N ft i;induction i with
   |zero=>intro _;rfl
   |succ i ih =>
    intro hi;have:(Array.replicate ops.size false).getD i true=false:=by simp[Array.getD];omega
    rw[dv,this,Bool.false_and,cond_false,ih (by omega)]
  have key:=this (fun j=>if j≤al.length then Ma j else μq) (dp (fs++[aV μ1 (aN f1 (tmpsOf x.k)) {val:=some .any,ro:=true} x.k])) _ (Nat.le_refl _);rw[key];simp only[Nat.zero_le,if_true,a2];exact hW1
 have:∀(N:Nat→AF) (V:Nat→AV) i,i≤ops.size→GF (N 0) (al++[x]) V (fun j=>(Array.replicate ops.size false).getD j true) i=N 0:=by
  intro N V i;induction i with
  |zero=>intro _;rfl
  |succ i ih =>
   intro hi;have:(Array.replicate ops.size false).getD i true=false:=by simp[Array.getD];omega
   rw[GF,this,cond_false,ih (by omega)]
 have key:=this (fun j=>if j≤al.length then Fa j else put f1 x.dst vq3) (fun j=>if j<al.length then Va j else vq3) _ (Nat.le_refl _);rw[key];simp only[Nat.zero_le,if_true,a1];exact hF.drew hE1
theorem eE {n m:Nat} {own:Nat→Bool} {al:List bx} {free:List (Nat×Nat)} {R:Exit→AF→AM→Prop} {T:vn} {H:List (Nat×Hint)} (ht:xV al=true)
  (h:fg free (R .normal) (bR (ah C) (aA C) T H al [] [] [] f μ)):Aw C own n m (.regionF al free) R f μ:=by
 unfold fg at h;split at h
 ·rename_i vc pr fs f' μ' he;obtain⟨al0,x,hs,hh,vc1,pr1,f1,μ1,vc2,pr2,q,e1,e2,e3,e4,rfl,rfl⟩:=jS al 0 _ _ _ _ _ _ _ _ _ _ he;rw[e1]at ht ⊢;obtain⟨h11,h12⟩:=ew h.1;obtain⟨h21,h22⟩:=kq h.2.1;exact wc ht e2 h12 h22 h.2.2.1 e3 e4 h11 h21 h.2.2.2
 exact h.elim
end
end
section
def p9 (au:List Nat) (n i:Nat):Nat:=match au[i]? with
 |some b=>b
 |none=>n+(i-au.length)
def sP (au:List Nat) (n:Nat):Nat→AV→AV
 |_,.pv p=>.pv p
 |_,.iptr l o=>.iptr l o
 |_,.ref b g o k=>.ref (p9 au n b) g o k
 |_,.ptr b g o=>.ptr (p9 au n b) g o
 |_,.map b g=>.map (p9 au n b) g
 |d+1,.bm f l=>.bm f (l.map (sP au n d))
 |d+1,.agg l=>.agg (l.map (sP au n d))
 |d+1,.tup l=>.tup (l.map (sP au n d))
 |d+1,.fn f l=>.fn f (l.map (sP au n d))
 |d+1,.ifb c v=>.ifb c (sP au n d v)
 |_,_=>.any
def ry (au:List Nat) (n:Nat) (k:dI):dI:={k with cells:=k.cells.map (sP au n 3)}
def vo (au:List Nat) (n:Nat):List Nat→AM→AM→AM
 |b::bs,k::ks,μ=>vo au n bs ks (μ.set b (ry au n k))
 |_,ks,μ=>μ++ks.map (ry au n)
def oc (au:List Nat) (n:Nat) (μ:AM) (i:Nat):List Nat→AM→Prop
 |b::bs,k::ks=>μ[b]?=some (ry au n k)∧oc au n μ (i+1) bs ks
 |[],[]=>True
 |_,_=>False
section
variable {C:Ctx} {w0 w:World} {S:Nat→Prop} {γ γ':Gh} {au:List Nat} {n:Nat}
theorem xX:∀(d:Nat) {v:AV} {u:Value},(∀i e,γ i=some e→γ' (p9 au n i)=some e)→VR w S γ v u→VR w S γ' (sP au n d v) u:=by
 intro d;induction d with
 |zero =>
  intro v u hg h;cases h with
  |pv p _ hp=>exact .pv p _ hp
  |ref b g off k _ e a c h1 h2 h3 h4=>exact .ref _ g off k _ e a c (hg b e h1) h2 h3 h4
  |ptr b g off _ e a h1 h2 h3 h4=>exact .ptr _ g off _ e a (hg b e h1) h2 h3 h4
  |iptr l off g o c hS hc hi=>exact .iptr l off g o c hS hc hi
  |map b g _ e r h1 h2 h3 h4=>exact .map _ g _ e r (hg b e h1) h2 h3 h4
  |_=>exact .any _
 |succ d ih =>
  intro v u hg h;cases h with
  |pv p _ hp=>exact .pv p _ hp
  |ref b g off k _ e a c h1 h2 h3 h4=>exact .ref _ g off k _ e a c (hg b e h1) h2 h3 h4
  |ptr b g off _ e a h1 h2 h3 h4=>exact .ptr _ g off _ e a (hg b e h1) h2 h3 h4
  |iptr l off g o c hS hc hi=>exact .iptr l off g o c hS hc hi
  |map b g _ e r h1 h2 h3 h4=>exact .map _ g _ e r (hg b e h1) h2 h3 h4
  |agg l cs hl hat =>
   refine .agg _ cs (by simpa using hl) fun i p q hp hq=>?_
   rw[List.getElem?_map]at hp;obtain⟨p0,h1,rfl⟩:=Option.map_eq_some_iff.mp hp;exact ih hg (hat i p0 q h1 hq)
  |tup l cs hl hat =>
   refine .tup _ cs (by simpa using hl) fun i p q hp hq=>?_
   rw[List.getElem?_map]at hp;obtain⟨p0,h1,rfl⟩:=Option.map_eq_some_iff.mp hp;exact ih hg (hat i p0 q h1 hq)
  |fn f l cs hl hat =>
   refine .fn f _ cs (by simpa using hl) fun i p q hp hq=>?_
   rw[List.getElem?_map]at hp;obtain⟨p0,h1,rfl⟩:=Option.map_eq_some_iff.mp hp;exact ih hg (hat i p0 q h1 hq)
  |bm f l cs hl hat =>
   refine .bm f _ cs (by simpa using hl) fun i p q hp hq=>?_
   rw[List.getElem?_map]at hp;obtain⟨p0,h1,rfl⟩:=Option.map_eq_some_iff.mp hp;exact ih hg (hat i p0 q h1 hq)
  |ifb c a _ h1 h2=>exact .ifb c _ _ (fun hc=>ih hg (h1 hc)) h2
  |any _=>exact .any _
theorem rz {m:Nat}:∀(d:Nat) {v:AV} {u:Value},cC d m v=true→(∀i e,i<m→γ (p9 au n i)=some e→γ' i=some e)→VR w S γ (sP au n d v) u→VR w S γ' v u:=by
 intro d;induction d with
 |zero =>
  intro v u hb hg h;cases v<;>simp only[cC]at hb<;>simp only[sP]at h;case pv p=>cases h with|pv _ _ hp=>exact .pv _ _ hp
  case ref b g off k=>cases h with|ref _ _ _ _ _ e a c h1 h2 h3 h4=>exact .ref _ g off k _ e a c (hg b e (Nat.blt_eq.mp hb) h1) h2 h3 h4
  case ptr b g off=>cases h with|ptr _ _ _ _ e a h1 h2 h3 h4=>exact .ptr _ g off _ e a (hg b e (Nat.blt_eq.mp hb) h1) h2 h3 h4
  case iptr l off=>cases h with|iptr _ _ g o c hS hc hi=>exact .iptr l off g o c hS hc hi
  case map b g=>cases h with|map _ _ _ e r h1 h2 h3 h4=>exact .map _ g _ e r (hg b e (Nat.blt_eq.mp hb) h1) h2 h3 h4
  all_goals first
   |exact .any _
   |cases hb
 |succ d ih =>
  intro v u hb hg h;have lst:∀{l:List AV} {cs:List Value},l.all (cC d m)=true→(l.map (sP au n d)).length=cs.length→(∀(i:Nat) p q,(l.map (sP au n d))[i]?=some p→cs[i]?=some q→VR w S γ p q) →
    l.length=cs.length∧∀(i:Nat) p q,l[i]?=some p→cs[i]?=some q→VR w S γ' p q:=fun {l cs} ha hl hat =>
   ⟨by simpa using hl,fun i p q hp hq=>ih (List.all_eq_true.mp ha p (List.mem_of_getElem? hp)) hg (hat i _ q (by rw[List.getElem?_map,hp];rfl) hq)⟩
  cases v<;>simp only[cC]at hb<;>simp only[sP]at h;case pv p=>cases h with|pv _ _ hp=>exact .pv _ _ hp
  case ref b g off k=>cases h with|ref _ _ _ _ _ e a c h1 h2 h3 h4=>exact .ref _ g off k _ e a c (hg b e (Nat.blt_eq.mp hb) h1) h2 h3 h4
  case ptr b g off=>cases h with|ptr _ _ _ _ e a h1 h2 h3 h4=>exact .ptr _ g off _ e a (hg b e (Nat.blt_eq.mp hb) h1) h2 h3 h4
  case iptr l off=>cases h with|iptr _ _ g o c hS hc hi=>exact .iptr l off g o c hS hc hi
  case map b g=>cases h with|map _ _ _ e r h1 h2 h3 h4=>exact .map _ g _ e r (hg b e (Nat.blt_eq.mp hb) h1) h2 h3 h4
  case agg l=>cases h with|agg _ cs hl hat=>obtain⟨q1,q2⟩:=lst hb hl hat;exact .agg _ _ q1 q2
  case tup l=>cases h with|tup _ cs hl hat=>obtain⟨q1,q2⟩:=lst hb hl hat;exact .tup _ _ q1 q2
  case fn f l=>cases h with|fn _ _ cs hl hat=>obtain⟨q1,q2⟩:=lst hb hl hat;exact .fn _ _ _ q1 q2
  case bm f l=>cases h with|bm _ _ cs hl hat=>obtain⟨q1,q2⟩:=lst hb hl hat;exact .bm _ _ _ q1 q2
  case ifb c a=>cases h with|ifb _ _ _ h1 h2=>exact .ifb _ _ _ (fun hc=>ih hb hg (h1 hc)) h2
  case any=>exact .any _
def we (au:List Nat) (n:Nat) (γ γs:Gh):Gh:=fun b=>match au.findIdx? (fun c=>Nat.beq c b) with
 |some i=>γs i
 |none=>if b<n then γ b else γs (au.length+(b-n))
theorem Ar (hnd:au.Nodup) {i b:Nat} (h:au[i]?=some b):au.findIdx? (fun c=>Nat.beq c b)=some i:=by
 rw[List.findIdx?_eq_some_iff_getElem];obtain⟨hi,hb⟩:=List.getElem?_eq_some_iff.mp h;refine⟨hi,by rw[hb];exact Nat.beq_refl b,fun j hj=>?_⟩;intro hjb;have hjb:=Nat.eq_of_beq_eq_true hjb;have:=(List.getElem_inj (i:=j) (j:=i) (h₀:=by omega) (h₁:=hi) hnd).mp (hjb.trans hb.symm);omega
theorem oY {b:Nat} (h:b ∉ au):au.findIdx? (fun c=>Nat.beq c b)=none:=by
 rw[List.findIdx?_eq_none_iff];intro c hc;cases hb:Nat.beq c b with
 |false=>rfl
 |true=>rw[Nat.eq_of_beq_eq_true hb]at hc;exact absurd hc h
theorem As {i b:Nat} (h:au.findIdx? (fun c=>Nat.beq c b)=some i):au[i]?=some b:=by
 rw[List.findIdx?_eq_some_iff_getElem]at h;obtain⟨hi,hb,-⟩:=h;rw[List.getElem?_eq_getElem hi,Nat.eq_of_beq_eq_true hb]
theorem HX (hnd:au.Nodup) (hlt:∀b∈au,b<n) {γs:Gh} (i:Nat):we au n γ γs (p9 au n i)=γs i:=by
 unfold p9;cases hi:au[i]? with
 |some b =>
  simp only[we,Ar hnd hi]
 |none =>
  have hle:au.length≤i:=by
   apply Classical.byContradiction;intro hn;rw[List.getElem?_eq_getElem (by omega)]at hi;cases hi
  have hnk:n+(i-au.length) ∉ au:=fun h=>by have:=hlt _ h;omega
  simp only[we,oY hnk];rw[if_neg (by omega)];congr 1;omega
theorem y7:∀(bs:List Nat) (ks μ:AM),bs.length≤ks.length→(vo au n bs ks μ).length=μ.length+(ks.length-bs.length)
 |[],ks,μ,_=>by simp[vo]
 |b::bs,[],μ,h=>by simp at h
 |b::bs,k::ks,μ,h=>by
  rw[vo,y7 bs ks _ (by simpa using h)];simp
theorem xY:∀(bs:List Nat) (ks μ:AM),bs.length≤ks.length→bs.Nodup→(∀b∈bs,b<μ.length)→∀b k',(vo au n bs ks μ)[b]?=some k' →
  (∃(i:Nat) (k:dI),bs[i]?=some b∧ks[i]?=some k∧k'=ry au n k)∨(b<μ.length∧b ∉ bs∧μ[b]?=some k')∨(μ.length≤b∧∃k:dI,ks[bs.length+(b-μ.length)]?=some k∧k'=ry au n k)
 |[],ks,μ,_,_,_,b,k',h=>by
  simp only[vo]at h;by_cases hb:b<μ.length
  ·rw[List.getElem?_append_left hb]at h;exact .inr (.inl ⟨hb,by simp,h⟩)
  rw[List.getElem?_append_right (by omega),List.getElem?_map]at h;obtain⟨k,h1,h2⟩:=Option.map_eq_some_iff.mp h;exact .inr (.inr ⟨by omega,k,by simpa using h1,h2.symm⟩)
 |c::bs,[],μ,h0,_,_,b,k',h=>by simp at h0
 |c::bs,k::ks,μ,h0,hnd,hlt,b,k',h=>by
  rw[List.nodup_cons]at hnd;have hc:=hlt c List.mem_cons_self;rcases xY bs ks _ (by simpa using h0) hnd.2 (fun b hb=>by rw[List.length_set];exact hlt b (List.mem_cons_of_mem _ hb)) b k' h with⟨i,k1,h1,h2,h3⟩|⟨h1,h2,h3⟩|⟨h1,k1,h2,h3⟩
  ·exact .inl ⟨i+1,k1,h1,h2,h3⟩
  ·rw[List.length_set]at h1;by_cases hcb:c=b
   ·subst hcb;rw[List.getElem?_set_self hc]at h3;injection h3 with h3
    exact .inl ⟨0,k,rfl,rfl,h3.symm⟩
   rw[List.getElem?_set_ne hcb]at h3;exact .inr (.inl ⟨h1,by simp only[List.mem_cons,not_or];exact⟨Ne.symm hcb,h2⟩,h3⟩)
  rw[List.length_set]at h1 h2;exact .inr (.inr ⟨h1,k1,by rw[←h2];simp only[List.length_cons];rw[show bs.length+1+(b-μ.length)=bs.length+(b-μ.length)+1 by omega];rfl,h3⟩)
theorem wg {μ:AM}:∀(bs:List Nat) (ks:AM) (j:Nat),oc au n μ j bs ks→bs.length=ks.length∧∀(i:Nat) b k,bs[i]?=some b→ks[i]?=some k→μ[b]?=some (ry au n k)
 |[],[],_,_=>⟨rfl,fun i b k h=>by simp at h⟩
 |[],_::_,_,h=>h.elim
 |_::_,[],_,h=>h.elim
 |b::bs,k::ks,j,h=>by
  obtain⟨h1,h2⟩:=wg bs ks (j+1) h.2;refine⟨by simp[h1],fun i b' k' hb hk=>?_⟩;cases i with
  |zero=>injection hb with hb;injection hk with hk;subst hb hk;exact h.1
  |succ i=>exact h2 i b' k' hb hk
theorem uA {γs:Gh} {b:Nat} {e:sO} (h:we au n γ γs b=some e):(∃i,p9 au n i=b∧γs i=some e)∨(b<n∧b ∉ au∧γ b=some e):=by
 unfold we at h;split at h
 ·rename_i i hi;refine .inl ⟨i,?_,h⟩;unfold p9;rw[As hi]
 rename_i hf;rw[List.findIdx?_eq_none_iff]at hf;have hnk:b ∉ au:=fun hb=>by have:=hf b hb;rw[Nat.beq_refl]at this;cases this
 split at h
 ·exact .inr ⟨by assumption,hnk,h⟩
 refine .inl ⟨_,?_,h⟩;unfold p9;rw[List.getElem?_eq_none (by omega)];simp only;omega
theorem uB {γs:Gh} {b:Nat} (h1:b ∉ au) (h2:b<n):we au n γ γs b=γ b:=by
 unfold we;rw[oY h1];simp only;rw[if_pos h2]
def BE (au:List Nat) (γ:Gh):Gh:=fun i=>(au[i]?).bind γ
theorem jT {i:Nat} {e:sO} (h:BE au γ i=some e):∃b,au[i]?=some b∧γ b=some e:=by
 obtain⟨b,h1,h2⟩:=Option.bind_eq_some_iff.mp h;exact⟨b,h1,h2⟩
variable {μ μs:AM}
theorem FX (hW:Wd C w0 S γ μ w) (hnd:au.Nodup) (hh:oc au μ.length μ 0 au μs) (hok:aY μs μs.length=true):(∀i e,i<μs.length→γ (p9 au μ.length i)=some e→BE au γ i=some e)∧Wd C w0 S (BE au γ) μs w:=by
 obtain⟨hkl,hat⟩:=wg au μs 0 hh;have hem:∀i e,i<μs.length→γ (p9 au μ.length i)=some e→BE au γ i=some e:=fun i e hi he=>by
  unfold BE;have hk:au[i]?=some au[i]:=List.getElem?_eq_getElem (by omega);unfold p9 at he;rw[hk]at he ⊢;exact he
 have hki:∀{i:Nat} {k:dI},μs[i]?=some k→∃b,au[i]?=some b∧μ[b]?=some (ry au μ.length k)∧BE au γ i=γ b:=fun {i k} hk=>by
  have hi:=(List.getElem?_eq_some_iff.mp hk).1;have hb:au[i]?=some au[i]:=List.getElem?_eq_getElem (by omega);exact⟨_,hb,hat i _ k hb hk,by unfold BE;rw[hb];rfl⟩
 have hcell:∀{i:Nat} {k:dI},μs[i]?=some k→∀a∈k.cells,cC 3 μs.length a=true:=fun {i k} hk a ha=>by
  have:=List.all_eq_true.mp hok k (List.mem_of_getElem? hk);exact List.all_eq_true.mp this a ha
 refine⟨hem,⟨⟨fun i k hk hz=>?_,fun i k hk hz=>?_,fun i hi=>?_,fun i j e e' h1 h2 h3=>?_⟩,hW.below,hW.live,hW.env⟩⟩
 ·obtain⟨b,h1,h2,h3⟩:=hki hk;obtain⟨e,cs,q1,q2,q3,q4,q5,q6,q7,q8,q9⟩:=hW.mem.blk b _ h2 hz;refine⟨e,cs,h3.trans q1,q2,q3,q4,q5,by simpa [ry]using q6,fun j a ha=>?_,q8,q9⟩;obtain⟨v,r1,r2,r3⟩:=q7 j (sP au μ.length 3 a) (by simp only[ry,List.getElem?_map,ha];rfl);exact⟨v,r1,rz 3 (hcell hk a (List.mem_of_getElem? ha)) hem r2,r3⟩
 ·obtain⟨b,h1,h2,h3⟩:=hki hk;obtain⟨e,q1,q2,q3,⟨es,clock,r1,r2,r3⟩,q8,q9⟩:=hW.mem.mp b _ h2 hz;refine⟨e,h3.trans q1,q2,q3,⟨es,clock,r1,⟨by simpa [ry]using r2.len,fun j a v ha hv=>?_⟩,r3⟩,q8,q9⟩;exact rz 3 (hcell hk a (List.mem_of_getElem? ha)) hem (r2.at_ j (sP au μ.length 3 a) v (by simp only[ry,List.getElem?_map,ha];rfl) hv)
 ·unfold BE;rw[List.getElem?_eq_none (by omega)];rfl
 obtain⟨b,g1,g2⟩:=jT h1;obtain⟨b',g3,g4⟩:=jT h2;have:=hW.mem.inj b b' e e' g2 g4 h3;subst this;have hi:=(List.getElem?_eq_some_iff.mp g1).1;exact(List.getElem?_inj hi hnd).mp (g1.trans g3.symm)
theorem y8 {as:List AV} {vs:List Value} {γs:Gh} {m:Nat} (has:∀a∈as,cC 3 m a=true) (hem:∀i e,i<m→γ (p9 au n i)=some e→γs i=some e) (hp:PW (VR w S γ) (as.map (sP au n 3)) vs):PW (VR w S γs) as vs :=
 ⟨by simpa using hp.len,fun i a v ha hv=>rz 3 (has a (List.mem_of_getElem? ha)) hem (hp.at_ i _ v (by rw[List.getElem?_map,ha];rfl) hv)⟩
theorem y9 (hW : Wd C w0 S γ μ w) (hnd : au.Nodup) (hlt : ∀ b ∈ au, b < μ.length) {μs' : AM} (hlen : au.length ≤ μs'.length) {w' : World} {S' : Nat → Prop} {γs' : Gh} (hE : Ext w S (BE au γ) w' S' γs') (hW' : Wd C w0 S' γs' μs' w') :
    Ext w S γ w' S' (we au μ.length γ γs') ∧ Wd C w0 S' (we au μ.length γ γs') (vo au μ.length au μs' μ) w' ∧ ∀ i e, γs' i = some e → we au μ.length γ γs' (p9 au μ.length i) = some e := by
  have hup : ∀ i e, γs' i = some e → we au μ.length γ γs' (p9 au μ.length i) = some e := fun i e h => by rw [HX hnd hlt]; exact h
  have hcbl : ∀ b e, γ b = some e → b < μ.length ∧ e.cb < w.heap.size := fun b e h => by
    have hb : b < μ.length := by
      apply Classical.byContradiction
      intro hn
      rw [hW.mem.none b (by omega)] at h
      cases h
    obtain ⟨e0, q1, -, -, q4, -⟩ := hW.mem.Aa (List.getElem?_eq_getElem hb)
    rw [h] at q1
    injection q1 with q1
    subst q1
    exact ⟨hb, q4⟩
  have hEx : Ext w S γ w' S' (we au μ.length γ γs') := by
    refine ⟨hE.stay, fun b e he => ?_, fun g hg => ?_, fun b e' he => ?_, hE.size, fun g hg hn => hE.frame g hg fun i e h => by obtain ⟨b, -, h2⟩ := jT h; exact hn b e h2⟩
    · by_cases hb : b ∈ au
      · obtain ⟨i, hi⟩ := List.getElem?_of_mem hb
        have h1 : BE au γ i = some e := by unfold BE; rw [hi]; exact he
        obtain ⟨e', g1, g2, g3⟩ := hE.gh i e h1
        have h2 : p9 au μ.length i = b := by unfold p9; rw [hi]
        exact ⟨e', h2 ▸ hup i e' g1, g2, g3⟩
      exact ⟨e, (uB hb (hcbl b e he).1).trans he, Nat.le_refl _, fun _ => rfl⟩
    · rcases hE.more g hg with h | ⟨i, e, h1, h2⟩ | h
      · exact .inl h
      · obtain ⟨b, -, h3⟩ := jT h1
        exact .inr (.inl ⟨b, e, h3, h2⟩)
      exact .inr (.inr h)
    rcases uA he with ⟨i, -, h1⟩ | ⟨-, -, h1⟩
    · rcases hE.cbs i e' h1 with ⟨i0, e, h2, h3⟩ | h2
      · obtain ⟨b0, -, h4⟩ := jT h2
        exact .inl ⟨b0, e, h4, h3⟩
      exact .inr h2
    exact .inl ⟨b, e', h1, rfl⟩
  have hside : ∀ b e, b ∉ au → γ b = some e → (∀ i e2, BE au γ i = some e2 → e2.cb ≠ e.cb) := fun b e hb he i e2 h2 hc => by
    obtain ⟨b2, h3, h4⟩ := jT h2
    have := hW.mem.inj b2 b e2 e h4 he hc
    subst this
    exact hb (List.mem_of_getElem? h3)
  have hnS : ∀ b e, b ∉ au → γ b = some e → ¬ S e.cb → ¬ S' e.cb := fun b e hb he hs hs' => by
    rcases hE.more _ hs' with h | ⟨i, e2, h1, h2⟩ | h
    · exact hs h
    · exact hside b e hb he i e2 h1 h2
    have := (hcbl b e he).2
    omega
  refine ⟨hEx, ⟨⟨fun b k' hk' hz' => ?_, fun b k' hk' hz' => ?_, fun b hb => ?_, fun b b' e e' h1 h2 h3 => ?_⟩, hW'.below, hW'.live, hW'.env⟩, hup⟩
  · have small : ∀ (i : Nat) (k : dI), p9 au μ.length i = b → μs'[i]? = some k → k' = ry au μ.length k → ∃ e cs, we au μ.length γ γs' b = some e ∧ e.gen = k'.gen ∧ e.sz = k'.sz ∧ nE w' e.cb cs k' ∧ cs.size = e.cap ∧ k'.cells.length ≤ e.cap ∧
        (∀ (i : Nat) a, k'.cells[i]? = some a → ∃ v, cs[i]? = some v ∧ VR w' S' (we au μ.length γ γs') a v ∧ v.oneCell' = true) ∧ w0.heap.size ≤ e.cb ∧ (k'.frozen = false → ¬ S' e.cb) := fun i k hi hk hkk => by
      subst hkk
      obtain ⟨e, cs, q1, q2, q3, q4, q5, q6, q7, q8, q9⟩ := hW'.mem.blk i k hk hz'
      refine ⟨e, cs, hi ▸ hup i e q1, q2, q3, q4, q5, by simpa [ry] using q6, fun j a ha => ?_, q8, q9⟩
      simp only [ry, List.getElem?_map] at ha
      obtain ⟨a0, g1, rfl⟩ := Option.map_eq_some_iff.mp ha
      obtain ⟨v, r1, r2, r3⟩ := q7 j a0 g1
      exact ⟨v, r1, xX 3 hup r2, r3⟩
    rcases xY au μs' μ hlen hnd hlt b k' hk' with ⟨i, k, h1, h2, h3⟩ | ⟨h1, h2, h3⟩ | ⟨h1, k, h2, h3⟩
    · exact small i k (by unfold p9; rw [h1]) h2 h3
    · obtain ⟨e, cs, q1, q2, q3, q4, q5, q6, q7, q8, q9⟩ := hW.mem.blk b k' h3 hz'
      refine ⟨e, cs, (uB h2 h1).trans q1, q2, q3, q4.congr (hE.frame e.cb (hcbl b e q1).2 (hside b e h2 q1)) rfl id, q5, q6, fun j a ha => ?_, q8, fun hf => hnS b e h2 q1 (q9 hf)⟩
      obtain ⟨v, r1, r2, r3⟩ := q7 j a ha
      exact ⟨v, r1, r2.ext hEx, r3⟩
    exact small _ k (by unfold p9; rw [List.getElem?_eq_none (by omega)]; simp only; omega) h2 h3
  · have small : ∀ (i : Nat) (k : dI), p9 au μ.length i = b → μs'[i]? = some k → k' = ry au μ.length k → ∃ e, we au μ.length γ γs' b = some e ∧ e.gen = k'.gen ∧ e.sz = k'.sz ∧ vt w' S' (we au μ.length γ γs') k' e.cb ∧ w0.heap.size ≤ e.cb ∧ (k'.frozen = false → ¬ S' e.cb) := fun i k hi hk hkk => by
      subst hkk
      obtain ⟨e, q1, q2, q3, ⟨es, clock, r1, r2, r3⟩, q8, q9⟩ := hW'.mem.mp i k hk hz'
      refine ⟨e, hi ▸ hup i e q1, q2, q3, ⟨es, clock, r1, ⟨by simpa [ry] using r2.len, fun j a v ha hv => ?_⟩, r3⟩, q8, q9⟩
      simp only [ry, List.getElem?_map] at ha
      obtain ⟨a0, g1, rfl⟩ := Option.map_eq_some_iff.mp ha
      exact xX 3 hup (r2.at_ j a0 v g1 hv)
    rcases xY au μs' μ hlen hnd hlt b k' hk' with ⟨i, k, h1, h2, h3⟩ | ⟨h1, h2, h3⟩ | ⟨h1, k, h2, h3⟩
    · exact small i k (by unfold p9; rw [h1]) h2 h3
    · obtain ⟨e, q1, q2, q3, q4, q8, q9⟩ := hW.mem.mp b k' h3 hz'
      exact ⟨e, (uB h2 h1).trans q1, q2, q3, q4.ext hEx (hE.frame e.cb (hcbl b e q1).2 (hside b e h2 q1)), q8, fun hf => hnS b e h2 q1 (q9 hf)⟩
    exact small _ k (by unfold p9; rw [List.getElem?_eq_none (by omega)]; simp only; omega) h2 h3
  · rw [y7 au μs' μ hlen] at hb
    unfold we
    rw [oY fun h => by have := hlt b h; omega]
    simp only
    rw [if_neg (by omega)]
    exact hW'.mem.none _ (by omega)
  have cross : ∀ {b b' : Nat} {e e' : sO} {i : Nat}, γs' i = some e → b' ∉ au → γ b' = some e' → e.cb = e'.cb → False := fun {b b' e e' i} h1 h2 h3 h4 => by
    rcases hE.cbs i e h1 with ⟨i0, e0, g1, g2⟩ | g1
    · exact hside b' e' h2 h3 i0 e0 g1 (g2.trans h4)
    have := (hcbl b' e' h3).2
    omega
  rcases uA h1 with ⟨i, q1, q2⟩ | ⟨q1, q2, q3⟩ <;> rcases uA h2 with ⟨j, r1, r2⟩ | ⟨r1, r2, r3⟩
  · have := hW'.mem.inj i j e e' q2 r2 h3
    subst this
    rw [← q1, ← r1]
  · exact (cross (b := b) q2 r2 r3 h3).elim
  · exact (cross (b := b) r2 q2 q3 h3.symm).elim
  exact hW.mem.inj b b' e e' q3 r3 h3
theorem aA.frame {f:FuncId} {al:List AV} {r:AV} {μs':AM} (h:aA C f al μs r μs') (au:List Nat) (μ:AM) (hnd:au.Nodup) (hlt:∀b∈au,b<μ.length) (hh:oc au μ.length μ 0 au μs) (hok:aY μs μs.length=true) (hal:∀a∈al,cC 3 μs.length a=true) (hlen:au.length≤μs'.length) :
  aA C f (al.map (sP au μ.length 3)) μ (sP au μ.length 3 r) (vo au μ.length au μs' μ):=by
 refine⟨h.1,fun w0 S γ w vs hW hp=>?_⟩;obtain⟨hem,hWs⟩:=FX hW hnd hh hok;refine(h.2 w0 S _ w vs hWs (y8 hal hem hp)).mono fun e w' hh'=>?_
 obtain⟨v,S',γs',he,hE,hW',hv⟩:=hh';obtain⟨h1,h2,h3⟩:=y9 hW hnd hlt hlen hE hW';exact⟨v,S',_,he,h1,h2,xX 3 h3 hv⟩
theorem BZ.frame {f:FuncId} {al:List AV} {c:List PanicEntry} {Post:AM→Prop} (h:BZ C f al μs c Post) (au:List Nat) (μ:AM) (hnd:au.Nodup) (hlt:∀b∈au,b<μ.length) (hh:oc au μ.length μ 0 au μs) (hok:aY μs μs.length=true) (hal:∀a∈al,cC 3 μs.length a=true) (hP:∀μ',Post μ'→au.length≤μ'.length) :
  BZ C f (al.map (sP au μ.length 3)) μ c (fun μ'=>∃μs',Post μs'∧μ'=vo au μ.length au μs' μ):=by
 refine⟨h.1,fun w0 S γ w vs hW hp=>?_⟩;obtain⟨hem,hWs⟩:=FX hW hnd hh hok;refine(h.2 w0 S _ w vs hWs (y8 hal hem hp)).mono fun e w' hh'=>?_
 obtain⟨S',γs',μs',he,hE,hW',hp'⟩:=hh';obtain⟨h1,h2,-⟩:=y9 hW hnd hlt (hP _ hp') hE hW';exact⟨S',_,_,he,h1,h2,μs',hp',rfl⟩
end
end
section
theorem rA {C:Ctx} {own:Nat→Bool} {n' m:Nat} {R:Exit→AF→AM→Prop} {f:AF} {μ:AM} {ps:List PV} {g n t sz:Nat} {e:TypeId} {x:af} (hμ:aY μ μ.length=true) (hm:m≤μ.length) (hz:sz≠0) (hl:ps.length=n*sz) (hf:∀M,nX M μ.length f=f) (hof:mu ((t,.pv (.sl n ps))::f) μ.length=true)
  (h:Aw C own n' m x R ((t,.pv (.sl n ps))::f) μ):Aw C own n' m x R ((t,.ref μ.length g 0 n)::f) (μ++[⟨ps.map .pv,g,sz,e,false⟩]):=by
 refine vX μ.length (by simp) ?_;have hb:(μ++[⟨ps.map .pv,g,sz,e,false⟩]:AM)[μ.length]?=some ⟨ps.map .pv,g,sz,e,false⟩:=by simp
 generalize hM:(μ++[⟨ps.map .pv,g,sz,e,false⟩]:AM)=M at *;have hz1:Nat.beq sz 0=false:=by rw[Bool.eq_false_iff];exact fun h=>hz (Nat.eq_of_beq_eq_true h)
 have hsol:bI M (.ref μ.length g 0 n)=some (.sl n ps):=by
  have h2:Nat.ble (0+n*sz) (ps.map AV.pv).length=true:=Nat.ble_eq_true_of_le (by simp[hl]);have h3:((ps.map AV.pv).drop 0).take (n*sz)=ps.map .pv:=by rw[List.drop_zero,List.take_of_length_le (by simp[hl])]
  have h4:∀(l:List PV),cG (l.map .pv)=some l:=fun l=>by
   induction l with
   |nil=>rfl
   |cons p r ih=>simp only[List.map_cons,cG,ih]
  simp only[bI,hb,hz1,Nat.beq_refl,h2,h3,h4,Bool.not_false,Bool.true_and,cond_true]
 have hpv:∀l:List PV,(l.map AV.pv).map (fX M μ.length)=l.map .pv:=fun l=>by simp[Function.comp_def,fX]
 have hold:∀k∈μ,{k with cells:=k.cells.map (fX M μ.length)}=k:=fun k hk=>by
  have h1:=List.all_eq_true.mp hμ k hk;have:k.cells.map (fX M μ.length)=k.cells:=by
   conv=>rhs;rw[←List.map_id k.cells]
   refine List.map_congr_left fun v hv=>?_
   exact y5 (List.all_eq_true.mp h1 v hv) (by omega) M
  rw[this]
 have hmap:μ.map (fun k=>{k with cells:=k.cells.map (fX M μ.length)})=μ:=by
  conv=>rhs;rw[←List.map_id μ]
  exact List.map_congr_left fun k hk=>hold k hk
 have hfz:freeze M [μ.length]=μ++[⟨ps.map .pv,g,sz,e,true⟩]:=by
  simp only[freeze,hb];rw[←hM,List.set_append_right _ _ (by simp)];simp
 have hS:mG M μ.length=μ++[⟨ps.map .pv,g,sz,e,true⟩]:=by
  unfold mG;rw[hfz];simp only[List.map_append,List.map_cons,List.map_nil,hmap,hpv]
 have hF:nX M μ.length ((t,.ref μ.length g 0 n)::f)=(t,.pv (.sl n ps))::f:=by
  have h1:=hf M;unfold nX at h1 ⊢;rw[List.map_cons,h1];show(t,fX M μ.length (.ref μ.length g 0 n))::f=_;simp only[fX,Nat.beq_refl,cond_true,hsol]
 rw[hS,hF];exact yY hm hof hμ h
end
section
open Go.ChangeMaps (setBlock)
structure Oa (c:Code) (x d0 d1:Nat) (ty:TypeId):Prop where
 ex:∃id o0 o1,c= .region id #[o0,o1] false∧(o0.op= .move (.tmp x)∨o0.op= .assign (.tmp x))∧o0.dst=some d0∧o0.guard=none∧o1.op= .range ty (.tmp d0)∧o1.dst=some d1∧o1.guard=none
structure Ob (c:Code) (d1 d2 d3:Nat):Prop where
 ex:∃id o0 o1,c= .region id #[o0,o1] false∧o0.op= .next (.tmp d1) false∧o0.dst=some d2∧o0.guard=none∧o1.op= .extract (.tmp d2) 0∧o1.dst=some d3∧o1.guard=none
structure Od (c:Code) (d1 d4 d5 d6 d7 d8:Nat):Prop where
 ex:∃id o0 o1 o2 o3 o4,c= .region id #[o0,o1,o2,o3,o4] false∧o0.op= .entry (.tmp d1)∧o0.dst=some d4∧o0.guard=none∧o1.op= .extract (.tmp d4) 0∧o1.dst=some d5∧o1.guard=none ∧
  o2.op= .extract (.tmp d4) 1∧o2.dst=some d6∧o2.guard=none∧(o3.op= .move (.tmp d5)∨o3.op= .assign (.tmp d5))∧o3.dst=some d7∧o3.guard=none∧(o4.op= .move (.tmp d6)∨o4.op= .assign (.tmp d6))∧o4.dst=some d8∧o4.guard=none
section
variable {C:Ctx} {w0 w:World} {S:Nat→Prop} {γ:Gh} {μ:AM} {f:AF} {a:Act} {own:Nat→Bool} {n m:Nat} {R:Exit→AF→AM→Prop}
theorem jk {P:Program} {ops:Array Oper} {Q:Exit→Act→World→Prop} {i:Nat} {rest:List Nat} {o:Oper} {a:Act} {w w':World} {u:Value} {d:Nat} (ho:ops[i]?=some o) (hd:o.dst=some d) (hg:o.guard=none)
  (hr:(execOp a.eval o).run P w= .ok (.value u) w') (h:wpOps P ops Q rest (a.put (some d) u) w'):wpOps P ops Q (i::rest) a w:=by
 rw[wpOps_cons];unfold wpOp;rw[ho];simp only;rw[if_pos (by simp[Region.wanted,hg])];refine .inl ?_;unfold Oper.wp;rw[hr];show wpOps P ops Q rest (a.put o.dst u) w';rw[hd];exact h
theorem B5 {P:Program} {o:Oper} {a:Act} {w:World} {x:Nat} {v:Value} (h:o.op= .move (.tmp x)∨o.op= .assign (.tmp x)) (hv:a.eval (.tmp x)=v):(execOp a.eval o).run P w= .ok (.value v) w:=by
 rcases h with h|h<;>simp[execOp,h,hv]
theorem uC {P:Program} {o:Oper} {a:Act} {w:World} {x i:Nat} {l:List Value} {v:Value} (h:o.op= .extract (.tmp x) i) (hv:a.eval (.tmp x)= .tuple l.toArray) (hi:l[i]?=some v):(execOp a.eval o).run P w= .ok (.value v) w:=by
 simp[execOp,h,hv,Instr.extract,hi]
theorem fP {g f:AF} {d:Nat} {u:AV} (h:Sub g f) (hd:∀p∈g,p.1≠d):Sub g (put f (some d) u):=by
 induction g with
 |nil=>trivial
 |cons p r ih =>
  obtain⟨t,v⟩:=p;refine⟨?_,ih h.2 fun q hq=>hd q (List.mem_cons_of_mem _ hq)⟩;show get ((d,u)::f) t=v;simp only[get];have:Nat.beq d t=false:=by
   rw[Bool.eq_false_iff];intro hb;exact hd (t,v) List.mem_cons_self (Nat.eq_of_beq_eq_true hb).symm
  rw[this,cond_false];exact h.1
theorem df (f:AF) (d:Nat) (u:AV):get (put f (some d) u) d=u:=by
 show get ((d,u)::f) d=u;simp[get]
theorem FR.sub {g:AF} {D:List Deferred} (hs:Sub g f) (h:FR D n w S γ f a):FR D n w S γ g a:=⟨h.size,h.defers,fun t=>by
 rcases pY hs t with h1|h1
 ·rw[h1];exact .any _
 rw[h1];exact h.val t⟩
theorem Wd.za (hW:Wd C w0 S γ μ w) {w':World} {r:Nat} (hos:w'.os=w.os) (htape:w'.tape=w.tape) (hout:w'.output=w.output) (hsize:w.heap.size≤w'.heap.size) (hblk:∀g,g<w.heap.size→g≠r→w'.heap[g]?=w.heap[g]?)
  (hr0:w0.heap.size≤r) (hS:¬S r) (hγ:∀b e,γ b=some e→e.cb≠r):Wd C w0 S γ μ w'∧ig w S γ w' S γ:=by
 have hE:ig w S γ w' S γ:=⟨⟨fun _ h=>h,fun g hg=>hblk g (hW.live g hg) fun h=>hS (h▸hg)⟩,fun b e h=>⟨e,h,Nat.le_refl _,fun _=>rfl⟩,fun _ h=>.inl h,fun b e h=>.inl ⟨b,e,h,rfl⟩,hsize⟩
 refine⟨⟨hW.mem.stay hE (fun b e h hlt=>hblk _ hlt (hγ b e h)) (fun _ _ _ _ _ _ _ h=>h),?_,fun g hg=>Nat.lt_of_lt_of_le (hW.live g hg) hsize,hW.env⟩,hE⟩;exact hW.below.trans ⟨hos,htape,hout,hsize,fun g hg=>hblk g (Nat.lt_of_lt_of_le hg hW.below.size) (by omega)⟩
theorem Wd.still (hW:Wd C w0 S γ μ w) {b:Nat} {k:dI} {e:sO} (hk:μ[b]?=some k) (hz:k.sz=0) (he:γ b=some e) :
  Wd C w0 (fun g=>S g∨g=e.cb) γ (μ.set b {k with frozen:=true}) w∧Ext w S γ w (fun g=>S g∨g=e.cb) γ:=by
 have hE:Ext w S γ w (fun g=>S g∨g=e.cb) γ:=⟨⟨fun _ h=>.inl h,fun _ _=>rfl⟩,fun b e h=>⟨e,h,Nat.le_refl _,fun _=>rfl⟩,fun g h=>by
  rcases h with h|h
  ·exact .inl h
  exact .inr (.inl ⟨b,e,he,h.symm⟩),fun b e h=>.inl ⟨b,e,h,rfl⟩,Nat.le_refl _,fun _ _ _=>rfl⟩
 have hbl:b<μ.length:=(List.getElem?_eq_some_iff.mp hk).1;refine⟨⟨⟨fun b' k' hk' hz'=>?_,fun b' k' hk' hz'=>?_,fun b' hb'=>hW.mem.none b' (by simpa using hb'),hW.mem.inj⟩,hW.below,fun g hg=>?_,hW.env⟩,hE⟩
 ·by_cases hbb:b=b'
  ·subst hbb;rw[List.getElem?_set_self hbl]at hk';injection hk' with hk'
   subst hk';exact absurd hz hz'
  rw[List.getElem?_set_ne hbb]at hk';obtain⟨e2,cs2,h1,h2,h3,h4,h5,h6,h7,h8,h9⟩:=hW.mem.blk b' k' hk' hz';refine⟨e2,cs2,h1,h2,h3,h4,h5,h6,fun i x hx=>?_,h8,fun hf hs=>?_⟩
  ·obtain⟨v,g1,g2,g3⟩:=h7 i x hx;exact⟨v,g1,g2.ext hE,g3⟩
  rcases hs with hs|hs
  ·exact h9 hf hs
  exact hbb (hW.mem.inj b b' e e2 he h1 hs.symm)
 ·by_cases hbb:b=b'
  ·subst hbb;rw[List.getElem?_set_self hbl]at hk';injection hk' with hk'
   subst hk';obtain⟨e2,h1,h2,h3,h4,h5,h6⟩:=hW.mem.mp b k hk hz;exact⟨e2,h1,h2,h3,h4.ext hE rfl,h5,fun hf=>by cases hf⟩
  rw[List.getElem?_set_ne hbb]at hk';obtain⟨e2,h1,h2,h3,h4,h5,h6⟩:=hW.mem.mp b' k' hk' hz';refine⟨e2,h1,h2,h3,h4.ext hE rfl,h5,fun hf hs=>?_⟩;rcases hs with hs|hs
  ·exact h6 hf hs
  exact hbb (hW.mem.inj b b' e e2 he h1 hs.symm)
 rcases hg with hg|hg
 ·exact hW.live g hg
 rw[hg];exact hW.mem.Aa hk |>.elim fun e0 h=>by
  obtain⟨q1,-,-,q4,-⟩:=h;rw[he]at q1;injection q1 with q1
  subst q1;exact q4
theorem wh:∀(l:List MapEntry) (j:Nat) (e:MapEntry),l[j]?=some e→(fc l)[2*j]?=some e.key∧(fc l)[2*j+1]?=some e.val
 |[],j,e,h=>by simp at h
 |x::r,0,e,h=>by
  simp only[List.getElem?_cons_zero,Option.some.injEq]at h;subst h;exact⟨rfl,rfl⟩
 |x::r,j+1,e,h=>by
  have ih:=wh r j e (by simpa using h);rw[show 2*(j+1)=2*j+1+1 by omega];exact ih
theorem tD:∀(l:List MapEntry),(fc l).length=2*l.length
 |[]=>rfl
 |x::r=>by simp only[fc,List.length_cons,tD r];omega
theorem wi (key val:Nat→AV):∀(l:List Nat) (j i:Nat),l[j]?=some i→(l.flatMap fun j=>[key j,val j])[2*j]?=some (key i)∧(l.flatMap fun j=>[key j,val j])[2*j+1]?=some (val i)
 |[],j,i,h=>by simp at h
 |x::r,0,i,h=>by
  simp only[List.getElem?_cons_zero,Option.some.injEq]at h;subst h;exact⟨rfl,rfl⟩
 |x::r,j+1,i,h=>by
  have ih:=wi key val r j i (by simpa using h);rw[show 2*(j+1)=2*j+1+1 by omega];exact ih
theorem tE (key val:Nat→AV):∀(l:List Nat),(l.flatMap fun j=>[key j,val j]).length=2*l.length
 |[]=>rfl
 |x::r=>by simp only[List.flatMap_cons,List.length_append,List.length_cons,List.length_nil,tE key val r];omega
theorem kS {P:Program} {c:Code} {x y:af} (hc:comp P own n c=some (.seq x y)):∃a b,c= .seq a b∧comp P own n a=some x∧comp P own n b=some y:=by
 cases c<;>simp only[comp]at hc;case seq a b =>
  split at hc
  ·rename_i x' y' h1 h2;injection hc with hc;injection hc with e1 e2
   subst e1 e2;exact⟨a,b,rfl,h1,h2⟩
  cases hc
 all_goals repeat' split at hc
 all_goals first
  |(cases hc;done)
  |(injection hc with hc;cases hc;done)
  |(rcases ck hc with hc|hc|hc<;>cases hc)
theorem wj {P:Program} {c:Code} {o:cn} {x y:af} (hc:comp P own n c=some (.cond o x y)):∃q a b,c= .cond q a b∧aB q=some o∧comp P own n a=some x∧comp P own n b=some y:=by
 cases c<;>simp only[comp]at hc;case cond q a b =>
  split at hc
  ·rename_i o' x' y' h0 h1 h2;injection hc with hc;injection hc with e0 e1 e2
   subst e0 e1 e2;exact⟨q,a,b,rfl,h0,h1,h2⟩
  cases hc
 all_goals repeat' split at hc
 all_goals first
  |(cases hc;done)
  |(injection hc with hc;cases hc;done)
  |(rcases ck hc with hc|hc|hc<;>cases hc)
theorem od {P:Program} {id:Nat} {c:Code} {x:af} (hc:comp P own n c=some (.block id x)):∃a,c= .block id a∧comp P own n a=some x:=by
 cases c<;>simp only[comp]at hc;case block i a =>
  split at hc
  ·rename_i x' h1;injection hc with hc;injection hc with e0 e1
   subst e0 e1;exact⟨a,rfl,h1⟩
  cases hc
 all_goals repeat' split at hc
 all_goals first
  |(cases hc;done)
  |(injection hc with hc;cases hc;done)
  |(rcases ck hc with hc|hc|hc<;>cases hc)
theorem wk {P:Program} {c:Code} {x:af} (hc:comp P own n c=some (.loop x)):∃a,c= .loop a∧comp P own n a=some x:=by
 cases c<;>simp only[comp]at hc;case loop a =>
  split at hc
  ·rename_i x' h1;injection hc with hc;injection hc with e1
   subst e1;exact⟨a,rfl,h1⟩
  cases hc
 all_goals repeat' split at hc
 all_goals first
  |(cases hc;done)
  |(injection hc with hc;cases hc;done)
  |(rcases ck hc with hc|hc|hc<;>cases hc)
theorem wm {P:Program} {id:Nat} {c:Code} (hc:comp P own n c=some (.exit id)):c= .exit id:=by
 cases c<;>simp only[comp]at hc;case exit i=>injection hc with hc;injection hc with hc;rw[hc]
 all_goals repeat' split at hc
 all_goals first
  |(cases hc;done)
  |(injection hc with hc;cases hc;done)
  |(rcases ck hc with hc|hc|hc<;>cases hc)
theorem wo {P:Program} {c:Code} (hc:comp P own n c=some .skip):c= .skip:=by
 cases c<;>simp only[comp]at hc;case skip=>rfl
 all_goals repeat' split at hc
 all_goals first
  |(cases hc;done)
  |(injection hc with hc;cases hc;done)
  |(rcases ck hc with hc|hc|hc<;>cases hc)
theorem nf {P:Program} {c c':Code} (hc:comp P own n c'=some (.raw c)):c'=c:=by
 cases c'<;>simp only[comp]at hc;case region id ops d =>
  split at hc
  ·rcases ck hc with hc|hc|hc<;>cases hc
  split at hc
  ·cases hc
  split at hc
  ·injection hc with hc;injection hc
  cases hc
 all_goals repeat' split at hc
 all_goals first
  |(cases hc;done)
  |(injection hc with hc;cases hc;done)
  |(rcases ck hc with hc|hc|hc<;>cases hc)
theorem uD:∀(N:Nat) (l:List Nat),l.Nodup→(∀i∈l,i<N)→l.length≤N
 |0,[],_,_=>by simp
 |0,x::r,_,h=>by have:=h x List.mem_cons_self;omega
 |N+1,l,hn,h=>by
  have h1:=uD N (l.erase N) (hn.erase N) fun i hi=>by
   rw[hn.mem_erase_iff]at hi;have:=h i hi.2;have:=hi.1;omega
  rw[List.length_erase]at h1;split at h1<;>omega
theorem fH.down {m m':Nat} {w':World} {S':Nat→Prop} {γ':Gh} (hm:m≤m') (h:fH m' w S γ w' S' γ'):fH m w S γ w' S' γ' :=
 ⟨h.stay,fun b e hb he=>h.gh b e (by omega) he,h.more,h.cbs,h.size,h.frame⟩
theorem xZ {es:Array MapEntry} {seen:Array Nat} (h:(leftOf es seen).size=0) {x:MapEntry} (hx:x∈es.toList):seen.contains x.born=true:=all_seen es seen h x hx
theorem wq {c0 c1 c2 : Code} {B : af} {x d0 d1 d2 d3 d4 d5 d6 d7 d8 i3 i4 m' : Nat} {ty : TypeId} (h0 : Oa c0 x d0 d1 ty) (h1 : Ob c1 d1 d2 d3) (h2 : Od c2 d1 d4 d5 d6 d7 d8)
    (hn : d0 < n ∧ d1 < n ∧ d2 < n ∧ d3 < n ∧ d4 < n ∧ d5 < n ∧ d6 < n ∧ d7 < n ∧ d8 < n) (hd : d1 ≠ d2 ∧ d1 ≠ d3 ∧ d1 ≠ d4 ∧ d1 ≠ d5 ∧ d1 ≠ d6 ∧ d1 ≠ d7 ∧ d1 ≠ d8 ∧ d2 ≠ d3 ∧ d4 ≠ d5 ∧ d5 ≠ d6 ∧ d6 ≠ d7 ∧ d7 ≠ d8)
    (ht : ∃ k e, C.P.underlying ty = some (.map k e)) {b g : Nat} {k : dI} (hb : get f x = .map b g) (hk : μ[b]? = some k) (hg : k.gen = g) (hz : k.sz = 0) (hm : m ≤ m') (hbm : b < m')
    (N : Nat) (key val : Nat → AV) (hcells : k.cells = (List.range N).flatMap fun j => [key j, val j]) (F : List Nat → AF) (M : List Nat → AM)
    (hF : ∀ vis, ∀ p ∈ F vis, p.1 ≠ d0 ∧ p.1 ≠ d1 ∧ p.1 ≠ d2 ∧ p.1 ≠ d3 ∧ p.1 ≠ d4 ∧ p.1 ≠ d5 ∧ p.1 ≠ d6 ∧ p.1 ≠ d7 ∧ p.1 ≠ d8) (hF0 : Sub (F []) f) (hM0 : μ.set b { k with frozen := true } = M []) (hMb : ∀ vis, (M vis)[b]? = some { k with frozen := true })
    (step : ∀ vis j v, vis.Nodup → (∀ i ∈ vis, i < N) → j < N → j ∉ vis → Aw C own n m' B (ec i4 (fun e f' μ' => e = .normal ∧ Sub ((d1, v) :: F (j :: vis)) f' ∧ μ' = M (j :: vis))) ((d8, val j) :: (d7, key j) :: (d1, v) :: F vis) (M vis))
    (done : ∀ vis, vis.Nodup → (∀ i, i ∈ vis ↔ i < N) → R .normal (F vis) (M vis)) :
    Aw C own n m (.seq (.raw c0) (.block i3 (.loop (.seq (.raw c1) (.seq (.cond (.t d3) .skip (.exit i3)) (.block i4 (.seq (.raw c2) B))))))) R f μ := by
  intro c hc w0 S γ w a hW hFr
  obtain ⟨q0, q1, rfl, hq0, hq1⟩ := kS hc
  obtain rfl := nf hq0
  obtain ⟨q2, rfl, hq2⟩ := od hq1
  obtain ⟨q3, rfl, hq3⟩ := wk hq2
  obtain ⟨q4, q5, rfl, hq4, hq5⟩ := kS hq3
  obtain rfl := nf hq4
  obtain ⟨q6, q7, rfl, hq6, hq7⟩ := kS hq5
  obtain ⟨qc, qa, qb, rfl, hqc, hqa, hqb⟩ := wj hq6
  obtain rfl := wo hqa
  obtain rfl := wm hqb
  obtain ⟨q8, rfl, hq8⟩ := od hq7
  obtain ⟨q9, cb, rfl, hq9, hqB⟩ := kS hq8
  obtain rfl := nf hq9
  obtain ⟨n0, n1, n2, n3, n4, n5, n6, n7, n8⟩ := hn
  obtain ⟨d12, d13, d14, d15, d16, d17, d18, d23, d45, d56, d67, d78⟩ := hd
  obtain ⟨kt, et, ht⟩ := ht
  obtain ⟨e, he, hgen, hesz, ⟨es, clock, hheap, hpw, hst⟩, hcb0, -⟩ := hW.mem.mp b k hk hz
  have hx : a.eval (.tmp x) = .map (some e.cb) := by
    have hv := hFr.val x
    rw [hb] at hv
    generalize a.eval (.tmp x) = u at hv
    cases hv with
    | map _ _ _ e' r he' hge hv hs =>
      rw [he] at he'
      injection he' with he'
      subst he'
      exact hs (by omega)
  have hsi := (MapKept.stamped_iff es clock).1 hst
  have hlenE : es.toList.length = N := by
    have := hpw.len
    rw [hcells, tE, tD, List.length_range] at this
    omega
  have hmem : ∀ x ∈ es.toList, ∃ j, j < N ∧ es.toList[j]? = some x := fun x hx => by
    obtain ⟨j, hj, rfl⟩ := List.mem_iff_getElem.mp hx
    exact ⟨j, by omega, by simp⟩
  have hborn : ∀ (i j : Nat) (x y : MapEntry), es.toList[i]? = some x → es.toList[j]? = some y → x.born = y.born → i = j := fun i j x y hi hj hxy => by
    obtain ⟨hi1, hi2⟩ := List.getElem?_eq_some_iff.mp hi
    obtain ⟨hj1, hj2⟩ := List.getElem?_eq_some_iff.mp hj
    have hnd := hsi.2.1
    have hnd' := List.pairwise_iff_getElem.mp hnd
    rcases Nat.lt_trichotomy i j with h | h | h
    · have h3 := hnd' i j (by simpa using hi1) (by simpa using hj1) h
      rw [List.getElem_map, List.getElem_map, hi2, hj2] at h3
      exact absurd hxy h3
    · exact h
    have h3 := hnd' j i (by simpa using hj1) (by simpa using hi1) h
    rw [List.getElem_map, List.getElem_map, hi2, hj2] at h3
    exact absurd hxy.symm h3
  obtain ⟨id0, o0, o1, rfl, p1, p2, p3, p4, p5, p6⟩ := h0
  refine wp_seq (wp_region ?_)
  show wpOps _ _ _ [0, 1] _ _
  refine jk (o := o0) rfl p2 p3 (B5 p1 hx) ?_
  have hput : ((a.put (some d0) (.map (some e.cb)))).eval (.tmp d0) = .map (some e.cb) := by
    have := (hFr.put (v := .pv (.val (.map (some e.cb)))) (u := .map (some e.cb)) (.pv _ _ (.val _)) (d := some d0) (fun t ht => by injection ht with ht; omega)).val d0
    rw [df] at this
    exact dq this
  refine jk (o := o1) (u := .pointer (some ⟨w.heap.size, 0, none⟩)) (w' := w.alloc (.mapIter (some e.cb) clock #[] clock)) rfl p5 p6 ?_ ?_
  · simp only [execOp, p4]
    rw [hput]
    simp only [Sem.run_bind, run_range_map w ty kt et e.cb es clock ht hheap, Result.andThen]
    rfl
  generalize hr0 : w.heap.size = r
  have hcbr : e.cb < r := by rw [← hr0]; exact hW.fY he
  have hin : ∀ {b' : Nat} {e' : sO}, γ b' = some e' → e'.cb ≠ r := fun h => by have := hW.fY h; omega
  obtain ⟨hW1, hE1⟩ := hW.still hk hz he
  rw [hM0] at hW1
  obtain ⟨hW2, hE2⟩ := hW1.za (w' := w.alloc (.mapIter (some e.cb) clock #[] clock)) (r := r) rfl rfl rfl (by simp) (fun g hg _ => Below.heap_alloc w _ g hg) (by have := hW.below.size; omega)
    (fun h => by rcases h with h | h
                 · have := hW.live _ h; omega
                 omega) (fun b' e' h => hin h)
  have hE2' : Ext w S γ (w.alloc (.mapIter (some e.cb) clock #[] clock)) (fun g => S g ∨ g = e.cb) γ := by
    have hz := hE1.z.trans hE2
    exact ⟨hz.stay, hz.gh, hz.more, hz.cbs, hz.size, fun g hg _ => Below.heap_alloc w _ g hg⟩
  have hF2 : ∃ f2, Sub ((d1, .pv (.val (.pointer (some ⟨r, 0, none⟩)))) :: F []) f2 ∧ FR C.D n (w.alloc (.mapIter (some e.cb) clock #[] clock)) (fun g => S g ∨ g = e.cb) γ f2 ((a.put (some d0) (.map (some e.cb))).put (some d1) (.pointer (some ⟨r, 0, none⟩))) := by
    have h1 := ((hFr.ext hE2').put (v := .any) (u := .map (some e.cb)) (.any _) (d := some d0) (fun t ht => by injection ht with ht; omega)).put (v := .pv (.val (.pointer (some ⟨r, 0, none⟩)))) (u := .pointer (some ⟨r, 0, none⟩)) (.pv _ _ (.val _)) (d := some d1) (fun t ht => by injection ht with ht; omega)
    exact ⟨_, ⟨df _ _ _, fP (fP hF0 fun p hp => (hF [] p hp).1) fun p hp => (hF [] p hp).2.1⟩, h1⟩
  obtain ⟨f2, hs2, hF2⟩ := hF2
  have hblk2 : (w.alloc (.mapIter (some e.cb) clock #[] clock)).heap[r]? = some (.mapIter (some e.cb) clock #[] clock) := by rw [← hr0]; exact heap_alloc_new w _
  have hsz2 : r < (w.alloc (.mapIter (some e.cb) clock #[] clock)).heap.size := by rw [← hr0]; simp
  generalize w.alloc (.mapIter (some e.cb) clock #[] clock) = w2 at *
  generalize (a.put (some d0) (.map (some e.cb))).put (some d1) (.pointer (some ⟨r, 0, none⟩)) = a2 at *
  show (Code.block i3 _).wp _ _ a2 w2
  refine wp_block (wp_loop_rounds (N + 1) ?_)
  obtain ⟨id1, u0, u1, rfl, r1, r2, r3, r4, r5, r6⟩ := h1
  obtain ⟨id2, v0, v1, v2, v3, v4, rfl, s1, s2, s3, s4, s5, s6, s7, s8, s9, s10, s11, s12, s13, s14, s15⟩ := h2
  have hwr : w.heap.size ≤ r := by omega
  have hw0r : w0.heap.size ≤ r := by have := hW.below.size; omega
  suffices key : ∀ (l : Nat) (vis : List Nat) (S1 : Nat → Prop) (γ1 : Gh) (w1 : World) (a1 : Act) (f1 : AF) (seen : Array Nat) (c0 : Nat), vis.length + l = N → vis.Nodup → (∀ i ∈ vis, i < N) → fH m w S γ w1 S1 γ1 → Wd C w0 S1 γ1 (M vis) w1 →
      FR C.D n w1 S1 γ1 f1 a1 → Sub ((d1, .pv (.val (.pointer (some ⟨r, 0, none⟩)))) :: F vis) f1 → S1 e.cb → γ1 b = some e → w1.heap[e.cb]? = some (.map es clock) → ¬ S1 r → (∀ b' e', γ1 b' = some e' → e'.cb ≠ r) → r < w1.heap.size →
      w1.heap[r]? = some (.mapIter (some e.cb) clock seen c0) → clock ≤ c0 → (∀ (j : Nat) x, es.toList[j]? = some x → (seen.contains x.born = true ↔ j ∈ vis)) →
      Code.rounds C.P (.seq (.region id1 #[u0, u1] false) (.seq (.cond qc .skip (.exit i3)) (.block i4 (.seq (.region id2 #[v0, v1, v2, v3, v4] false) cb)))) (Exit.inBlock i3 (Ends C n m w0 w S γ R)) (l + 1) a1 w1 by
    refine key N [] _ γ w2 a2 f2 #[] clock (by simp) List.nodup_nil (fun _ h => by cases h) (hE2'.ue m) hW2 hF2 hs2 (.inr rfl) he ?_ ?_ (fun _ _ h => hin h) hsz2 hblk2 (Nat.le_refl _) (fun j x hx => by simp)
    · exact (hE2.stay.blk e.cb (.inr rfl)).trans hheap
    intro h
    rcases h with h | h
    · have := hW.live _ h; omega
    omega
  intro l
  induction l using Nat.strongRecOn with
  | _ l ih =>
  intro vis S1 γ1 w1 a1 f1 seen c0 hl hnd hlt hE hW3 hF3 hs3 hScb hγb hcb1 hSr hγr hrs hr1 hc0 hseen
  rw [rounds_succ]
  have hpin : a1.eval (.tmp d1) = .pointer (some ⟨r, 0, none⟩) := by
    have := hF3.val d1
    rw [hs3.1] at this
    exact dq this
  refine wp_seq (wp_region ?_)
  show wpOps _ _ _ [0, 1] _ _
  rcases run_next_at (P := C.P) w1 u0.type r e.cb clock c0 seen es clock hr1 hcb1 hsi.1 hc0 with ⟨hz0, hrun⟩ | ⟨x, hx, wd, hwd, hrun⟩
  ·
    refine jk (o := u0) (u := .tuple #[.bool false]) (w' := w1) rfl r2 r3 (by simp only [execOp, r1, hpin, Sem.run_bind, hrun, Result.andThen]; rfl) ?_
    have hF4 := hF3.put (v := .pv (.val (.tuple #[.bool false]))) (u := .tuple #[.bool false]) (.pv _ _ (.val _)) (d := some d2) (fun t ht => by injection ht with ht; omega)
    have hev : (a1.put (some d2) (.tuple #[.bool false])).eval (.tmp d2) = .tuple #[.bool false] := by
      have := hF4.val d2
      rw [df] at this
      exact dq this
    refine jk (o := u1) (u := .bool false) (w' := w1) rfl r5 r6 (uC (l := [.bool false]) r4 hev rfl) ?_
    have hF5 := hF4.put (v := .pv (.bool false)) (u := .bool false) (.pv _ _ (.bool _)) (d := some d3) (fun t ht => by injection ht with ht; omega)
    generalize (a1.put (some d2) (.tuple #[.bool false])).put (some d3) (.bool false) = a5 at *
    show (Code.seq _ _).wp _ _ a5 w1
    have hv := aO (w := w1) (S := S1) (γ := γ1) (a := a5) hqc fun t _ => hF5.val t
    simp only [ev] at hv
    rw [df] at hv
    refine wp_seq (wp_cond (cd hv) ?_)
    refine wp_exit ?_
    show Exit.inBlock i3 _ (.exit i3) a5 w1
    simp only [Exit.inBlock]
    rw [if_pos trivial]
    have hall : ∀ i, i ∈ vis ↔ i < N := fun i => ⟨hlt i, fun hi => by
      have hi' : i < es.toList.length := by omega
      exact (hseen i es.toList[i] (by simp)).mp (xZ hz0 (by simp))⟩
    exact ⟨S1, γ1, F vis, M vis, hE, hW3, FR.sub (fP (fP hs3.2 fun p hp => (hF vis p hp).2.2.1) fun p hp => (hF vis p hp).2.2.2.1) hF5, done vis hnd hall⟩
  ·
    obtain ⟨hxm, hxs⟩ := mem_left hx
    obtain ⟨j, hjN, hjx⟩ := hmem x hxm
    have hjv : j ∉ vis := fun h => by
      rw [(hseen j x hjx).mpr h] at hxs
      cases hxs
    have hl0 : 0 < l := by
      have := uD N (j :: vis) (List.nodup_cons.mpr ⟨hjv, hnd⟩) (fun i hi => by rcases List.mem_cons.mp hi with h | h; exact h ▸ hjN; exact hlt i h)
      simp only [List.length_cons] at this
      omega
    have hwh : wd.heap = w1.heap := by rcases hwd with rfl | rfl <;> rfl
    have hset : ∀ g, g ≠ r → (setBlock wd r (.mapIter (some e.cb) clock (seen.push x.born) clock)).heap[g]? = w1.heap[g]? := fun g hg => by
      simp [setBlock, hwh, Ne.symm hg]
    have hset1 : (setBlock wd r (.mapIter (some e.cb) clock (seen.push x.born) clock)).heap[r]? = some (.mapIter (some e.cb) clock (seen.push x.born) clock) := by
      simp [setBlock, hwh, hrs]
    have hsz4 : (setBlock wd r (.mapIter (some e.cb) clock (seen.push x.born) clock)).heap.size = w1.heap.size := by
      simp [setBlock, hwh]
    obtain ⟨hW4, hE4⟩ := hW3.za (w' := setBlock wd r (.mapIter (some e.cb) clock (seen.push x.born) clock)) (r := r) (by rcases hwd with rfl | rfl <;> rfl) (by rcases hwd with rfl | rfl <;> rfl) (by rcases hwd with rfl | rfl <;> rfl) (by omega) (fun g _ hg => hset g hg) hw0r hSr hγr
    generalize setBlock wd r (.mapIter (some e.cb) clock (seen.push x.born) clock) = w4 at *
    have hE5 : fH m w S γ w4 S1 γ1 := by
      have hz := hE.z.trans (hE4.ue m)
      exact ⟨hz.stay, hz.gh, hz.more, hz.cbs, hz.size, fun g hg hn => (hset g (by omega)).trans (hE.frame g hg hn)⟩
    refine jk (o := u0) (u := .tuple #[.bool true, x.key, x.val]) (w' := w4) rfl r2 r3 (by simp only [execOp, r1, hpin, Sem.run_bind, hrun, Result.andThen]; rfl) ?_
    have hF4 := (hF3.sT hE4).put (v := .pv (.val (.tuple #[.bool true, x.key, x.val]))) (u := .tuple #[.bool true, x.key, x.val]) (.pv _ _ (.val _)) (d := some d2) (fun t ht => by injection ht with ht; omega)
    have hev : (a1.put (some d2) (.tuple #[.bool true, x.key, x.val])).eval (.tmp d2) = .tuple #[.bool true, x.key, x.val] := by
      have := hF4.val d2
      rw [df] at this
      exact dq this
    refine jk (o := u1) (u := .bool true) (w' := w4) rfl r5 r6 (uC (l := [.bool true, x.key, x.val]) r4 hev rfl) ?_
    have hF5 := hF4.put (v := .pv (.bool true)) (u := .bool true) (.pv _ _ (.bool _)) (d := some d3) (fun t ht => by injection ht with ht; omega)
    generalize (a1.put (some d2) (.tuple #[.bool true, x.key, x.val])).put (some d3) (.bool true) = a5 at *
    show (Code.seq _ _).wp _ _ a5 w4
    have hv := aO (w := w4) (S := S1) (γ := γ1) (a := a5) hqc fun t _ => hF5.val t
    simp only [ev] at hv
    rw [df] at hv
    refine wp_seq (wp_cond (cd hv) ?_)
    refine wp_skip ?_
    show (Code.block i4 _).wp _ _ a5 w4
    refine wp_block (wp_seq (wp_region ?_))
    show wpOps _ _ _ [0, 1, 2, 3, 4] _ _
    have hs5 : Sub ((d1, AV.pv (.val (.pointer (some ⟨r, 0, none⟩)))) :: F vis) (put (put f1 (some d2) (.pv (.val (.tuple #[.bool true, x.key, x.val])))) (some d3) (.pv (.bool true))) := by
      refine fP (fP hs3 fun p hp => ?_) fun p hp => ?_
      · rcases List.mem_cons.mp hp with rfl | hp
        · exact d12
        exact (hF vis p hp).2.2.1
      rcases List.mem_cons.mp hp with rfl | hp
      · exact d13
      exact (hF vis p hp).2.2.2.1
    have hpin5 : a5.eval (.tmp d1) = .pointer (some ⟨r, 0, none⟩) := by
      have := hF5.val d1
      rw [hs5.1] at this
      exact dq this
    generalize put (put f1 (some d2) (.pv (.val (.tuple #[.bool true, x.key, x.val])))) (some d3) (.pv (.bool true)) = f5 at *
    have hcb4 : w4.heap[e.cb]? = some (.map es clock) := (hset _ (by omega)).trans hcb1
    obtain ⟨e6, he6, hg6, -, ⟨es6, clock6, hh6, hpw6, -⟩, -⟩ := hW4.mem.mp b _ (hMb vis) hz
    rw [hγb] at he6
    injection he6 with he6
    subst he6
    rw [hcb4] at hh6
    injection hh6 with hh6
    injection hh6 with hh6 hh7
    subst hh6 hh7
    have hkc : ({ k with frozen := true } : dI).cells = k.cells := rfl
    rw [hkc, hcells] at hpw6
    obtain ⟨pk, pv⟩ := wi key val (List.range N) j j (by simp [hjN])
    obtain ⟨ek, ev'⟩ := wh _ j x hjx
    have hvk := hpw6.at_ _ _ _ pk ek
    have hvv := hpw6.at_ _ _ _ pv ev'
    refine jk (o := v0) (u := .tuple #[x.key, x.val]) (w' := w4) rfl s2 s3 (by simp only [execOp, s1, hpin5, Sem.run_bind, run_entry_at w4 r e.cb clock seen es clock x hset1 hcb4 hxm hsi.2.1, Result.andThen]; rfl) ?_
    have hF6 := hF5.put (v := .pv (.val (.tuple #[x.key, x.val]))) (u := .tuple #[x.key, x.val]) (.pv _ _ (.val _)) (d := some d4) (fun t ht => by injection ht with ht; omega)
    have hev6 : (a5.put (some d4) (.tuple #[x.key, x.val])).eval (.tmp d4) = .tuple #[x.key, x.val] := by
      have := hF6.val d4
      rw [df] at this
      exact dq this
    refine jk (o := v1) (u := x.key) (w' := w4) rfl s5 s6 (uC (l := [x.key, x.val]) s4 hev6 rfl) ?_
    have hF7 := hF6.put (v := .pv (.val x.key)) (u := x.key) (.pv _ _ (.val _)) (d := some d5) (fun t ht => by injection ht with ht; omega)
    have hev7 : ((a5.put (some d4) (.tuple #[x.key, x.val])).put (some d5) x.key).eval (.tmp d4) = .tuple #[x.key, x.val] := by
      have := hF7.val d4
      rw [bh (by simpa using fun h => d45 h.symm), df] at this
      exact dq this
    refine jk (o := v2) (u := x.val) (w' := w4) rfl s8 s9 (uC (l := [x.key, x.val]) s7 hev7 rfl) ?_
    have hF8 := hF7.put (v := .pv (.val x.val)) (u := x.val) (.pv _ _ (.val _)) (d := some d6) (fun t ht => by injection ht with ht; omega)
    generalize ((a5.put (some d4) (.tuple #[x.key, x.val])).put (some d5) x.key).put (some d6) x.val = a8 at *
    have hev8 : a8.eval (.tmp d5) = x.key := by
      have := hF8.val d5
      rw [bh (by simpa using fun h => d56 h.symm), df] at this
      exact dq this
    refine jk (o := v3) (u := x.key) (w' := w4) rfl s11 s12 (B5 s10 hev8) ?_
    have hF9 := hF8.put (v := key j) (u := x.key) hvk (d := some d7) (fun t ht => by injection ht with ht; omega)
    have hev9 : (a8.put (some d7) x.key).eval (.tmp d6) = x.val := by
      have := hF9.val d6
      rw [bh (by simpa using fun h => d67 h.symm), df] at this
      exact dq this
    refine jk (o := v4) (u := x.val) (w' := w4) rfl s14 s15 (B5 s13 hev9) ?_
    have hF10 := hF9.put (v := val j) (u := x.val) hvv (d := some d8) (fun t ht => by injection ht with ht; omega)
    generalize (a8.put (some d7) x.key).put (some d8) x.val = a9 at *
    have hs10 : Sub ((d8, val j) :: (d7, key j) :: (d1, AV.pv (.val (.pointer (some ⟨r, 0, none⟩)))) :: F vis) (put (put (put (put (put f5 (some d4) (.pv (.val (.tuple #[x.key, x.val])))) (some d5) (.pv (.val x.key))) (some d6) (.pv (.val x.val))) (some d7) (key j)) (some d8) (val j)) := by
      refine ⟨df _ _ _, ⟨by rw [bh (by simpa using fun h => d78 h.symm)]; exact df _ _ _, ?_⟩⟩
      refine fP (fP (fP (fP (fP hs5 ?_) ?_) ?_) ?_) ?_
      all_goals
        intro p hp
        rcases List.mem_cons.mp hp with rfl | hp
        · first | exact d14 | exact d15 | exact d16 | exact d17 | exact d18
        obtain ⟨-, -, -, -, z4, z5, z6, z7, z8⟩ := hF vis p hp
        first | exact z4 | exact z5 | exact z6 | exact z7 | exact z8
    show Code.wp C.P cb _ a9 w4
    refine wp_mono (step vis j (.pv (.val (.pointer (some ⟨r, 0, none⟩)))) hnd hlt hjN hjv cb hqB w0 S1 γ1 w4 a9 hW4 (FR.sub hs10 hF10)) fun ex a'' w'' hh => ?_
    obtain ⟨S', γ', f', μ', g1, g2, g3, g4⟩ := hh
    have hfin : Sub ((d1, AV.pv (.val (.pointer (some ⟨r, 0, none⟩)))) :: F (j :: vis)) f' ∧ μ' = M (j :: vis) ∧ (ex = .normal ∨ ex = .exit i4) := by
      cases ex with
      | normal => exact ⟨g4.2.1, g4.2.2, .inl rfl⟩
      | exit i =>
        simp only [ec] at g4
        cases hbi : Nat.beq i i4 with
        | true =>
          rw [hbi, cond_true] at g4
          exact ⟨g4.2.1, g4.2.2, .inr (by rw [Nat.eq_of_beq_eq_true hbi])⟩
        | false =>
          rw [hbi, cond_false] at g4
          exact absurd g4.1 (by simp)
      | _ => exact absurd g4.1 (by simp)
    obtain ⟨hs', rfl, hex⟩ := hfin
    have hround : Code.rounds C.P (.seq (.region id1 #[u0, u1] false) (.seq (.cond qc .skip (.exit i3)) (.block i4 (.seq (.region id2 #[v0, v1, v2, v3, v4] false) cb)))) (Exit.inBlock i3 (Ends C n m w0 w S γ R)) l a'' w'' := by
      obtain ⟨l', rfl⟩ : ∃ l', l = l' + 1 := ⟨l - 1, by omega⟩
      obtain ⟨e7, he7, hg7, -⟩ := g2.mem.mp b _ (hMb (j :: vis)) hz
      have he7' : γ' b = some e := by
        obtain ⟨e8, k1, k2, k3⟩ := g1.gh b e hbm hγb
        rw [he7] at k1
        injection k1 with k1
        subst k1
        rw [he7, k3 (by
          have : e7.gen = k.gen := hg7
          omega)]
      refine ih l' (by omega) (j :: vis) S' γ' w'' a'' f' (seen.push x.born) clock (by simp only [List.length_cons]; omega) (List.nodup_cons.mpr ⟨hjv, hnd⟩) (fun i hi => by rcases List.mem_cons.mp hi with h | h; exact h ▸ hjN; exact hlt i h)
        (hE5.trans (g1.down hm)) g2 g3 hs' (g1.stay.set _ hScb) he7' ((g1.stay.blk _ hScb).trans hcb4) ?_ ?_ ?_ ?_ (Nat.le_refl _) ?_
      · intro h
        rcases g1.more r h with h | ⟨b', e', h1, h2⟩ | h
        · exact hSr h
        · exact hγr b' e' h1 h2
        omega
      · intro b' e' h1 h2
        rcases g1.cbs b' e' h1 with ⟨b0, e0, h3, h4⟩ | h3
        · exact hγr b0 e0 h3 (h4.trans h2)
        omega
      · have := g1.size; omega
      · exact (g1.frame r (by omega) hγr).trans hset1
      intro i y hy
      rw [contains_push, Bool.or_eq_true, hseen i y hy, beq_iff_eq, List.mem_cons]
      constructor
      · rintro (h | h)
        · exact .inr h
        exact .inl (hborn i j y x hy hjx h)
      rintro (h | h)
      · subst h
        rw [hjx] at hy
        injection hy with hy
        exact .inr (by rw [hy])
      exact .inl h
    rcases hex with rfl | rfl
    · exact hround
    show Exit.inBlock i4 _ (.exit i4) a'' w''
    simp only [Exit.inBlock]
    rw [if_pos trivial]
    exact hround
end
end
section
def zb (C:Ctx) (g i:Nat) (p:PV):Prop:=∀w,C.E w→∃v,w.cell? ⟨g,i,none⟩=some v∧∀S,Is w S p v
def zc (C:Ctx) (t:sQ) (f f2:AF):Prop :=
 ((t.grd=none∨∃s b,t.grd=some (s,b)∧get f s= .pv (.bool b))∧∃k i p,ev f t.x= .pv (.int k i)∧0≤i∧i+1≤t.len∧zb C t.g i.toNat p∧f2=put (put f (some t.d1) .any) (some t.d2) (.pv p)) ∨
 (∃s b,t.grd=some (s,b)∧get f s= .pv (.bool (!b))∧f2=put (put f (some t.d1) .any) (some t.d2) .any)
section
variable {C:Ctx} {own:Nat→Bool} {n m:Nat} {R:Exit→AF→AM→Prop} {f:AF} {μ:AM}
theorem B6 {P:Program} {c:Code} {pre suf:List bx} {t:sQ} (hc:comp P own n c=some (.tab pre t suf)):∃id ops,c= .region id ops false∧vp P own n ops ops.toList=some (pre,t,suf):=by
 cases c<;>simp only[comp]at hc;case region id ops d =>
  split at hc
  ·rcases ck hc with hc|hc|hc<;>cases hc
  split at hc
  ·rename_i h1;injection hc with hc;injection hc with e1 e2 e3
   subst e1 e2 e3;exact⟨id,ops,rfl,h1⟩
  split at hc
  ·cases hc
  cases hc
 all_goals repeat' split at hc
 all_goals first
  |(cases hc;done)
  |(injection hc with hc;cases hc;done)
  |(rcases ck hc with hc|hc|hc<;>cases hc)
theorem tF {P:Program} {ops:Array Oper} {t:sQ} {suf:List bx}:∀{l:List Oper} {pre:List bx},vp P own n ops l=some (pre,t,suf)→∃l1 o1 o2 l2,l=l1++o1::o2::l2∧dM P own n ops l1=some pre∧Et P n ops o1 o2=some t∧dM P own n ops l2=some suf
 |[],_,h=>by cases h
 |[_],_,h=>by cases h
 |o1::o2::r,pre,h=>by
  simp only[vp]at h;split at h
  ·rename_i t' ht;split at h
   ·rename_i suf' hs;injection h with h;injection h with e1 e2;injection e2 with e2 e3
    subst e1 e2 e3;exact⟨[],o1,o2,r,rfl,rfl,ht,hs⟩
   cases h
  split at h
  ·rename_i a pre' t' suf' h1 h2;injection h with h;injection h with e1 e2;injection e2 with e2 e3
   subst e1 e2 e3;obtain⟨l1,p1,p2,l2,e,q1,q2,q3⟩:=tF h2;refine⟨o1::l1,p1,p2,l2,by rw[e];rfl,?_,q2,q3⟩;simp only[dM,h1,q1]
  cases h
theorem B7 {ops:Array Oper} {g1 g2 r:Option (Nat×Bool)} (h:Es ops g1 g2=some r):g2=g1∧((g1=none∧r=none)∨∃j b t,g1=some (j,b)∧(ops[j]?).bind (·.dst)=some t∧r=some (t,b)):=by
 unfold Es at h;split at h
 ·injection h with h;subst h;exact⟨rfl,.inl ⟨rfl,rfl⟩⟩
 ·rename_i j b j' b';cases hb:Nat.beq j j'&&(b==b') with
  |false=>rw[hb,cond_false]at h;cases h
  |true =>
   rw[hb,cond_true]at h;simp only[Bool.and_eq_true,beq_iff_eq]at hb;obtain⟨h1,h2⟩:=hb;have h1:=Nat.eq_of_beq_eq_true h1;subst h1 h2;split at h
   ·rename_i t ht;injection h with h
    subst h;exact⟨rfl,.inr ⟨j,b,t,rfl,ht,rfl⟩⟩
   cases h
 cases h
theorem B8 {P:Program} {ops:Array Oper} {o1 o2:Oper} {t:sQ} (h:Et P n ops o1 o2=some t):∃ty x e ty2,o1.op= .indexAddr ty (.global t.g) x∧o1.dst=some t.d1∧o2.op= .load ty2 (.tmp t.d1)∧o2.dst=some t.d2 ∧
  P.underlying ty=some (.array t.len e)∧aB x=some t.x∧bQ P ty2=some 1∧fW P ty2=some false∧bQ P e=some 1∧t.d1<n∧t.d2<n∧Es ops o1.guard o2.guard=some t.grd∧∀s b,t.grd=some (s,b)→s≠t.d1:=by
 unfold Et at h;split at h
 ·rename_i ty g i d1 ty2 d d2 h1 h2 h3 h4;split at h
  ·rename_i len e x grd q1 q2 q3 q4 q5;split at h
   ·rename_i hz;cases hb:(Nat.beq d d1&&(Nat.blt d1 n&&(Nat.blt d2 n&&xu d1 grd))) with
    |false=>rw[hb,cond_false]at h;cases h
    |true =>
     rw[hb,cond_true]at h;injection h with h
     subst h;simp only[Bool.and_eq_true]at hb;obtain⟨b1,b2,b3,b4⟩:=hb;have b1:=Nat.eq_of_beq_eq_true b1;subst b1;refine⟨ty,i,e,ty2,h1,h2,h3,h4,q1,q2,q3,q4,hz,Nat.blt_eq.mp b2,Nat.blt_eq.mp b3,q5,fun s b hs=>?_⟩;simp only at hs;subst hs;rintro rfl;simp[xu]at b4
   cases h
  cases h
 cases h
variable {w0 w:World} {S:Nat→Prop} {γ:Gh} {a:Act} {ops:Array Oper}
theorem wu {l:List Oper} {al:List bx} {i0 r:Nat} {cm:Bool} {hs:List (Nat×Hint)} {vc:VC} {pr:List Prop} {f':AF} {μ':AM} {Q:Exit→Act→World→Prop} (hat:∀(j:Nat) o,l[j]?=some o→ops[i0+j]?=some o) (hc:dM C.P own n ops l=some al)
  (he:cV (ah C) (aA C) cm false al hs 0 [] [] f μ=some (vc,pr,f',μ')) (hvc:aI vc) (hpr:aP pr)
  (hk:∀(S1:Nat→Prop) (γ1:Gh) (w1:World) (a1:Act),Ext w S γ w1 S1 γ1→Wd C w0 S1 γ1 μ' w1→FR C.D n w1 S1 γ1 f' a1→wpOps C.P ops Q (List.range' (i0+l.length) r) a1 w1)
  (hW:Wd C w0 S γ μ w) (hF:FR C.D n w S γ f a):wpOps C.P ops Q (List.range' i0 (l.length+r)) a w:=by
 obtain⟨-,F,M,V,h1,h2,h3,h4,h5⟩:=da al 0 [] [] f μ vc pr f' μ' he hvc hpr;obtain⟨hl,hat2⟩:=dQ hc;rw[Nat.zero_add]at h3 h4;have key:∀(d k:Nat),k+d=l.length→∀(S1:Nat→Prop) (γ1:Gh) (w1:World) (a1:Act),Ext w S γ w1 S1 γ1→Wd C w0 S1 γ1 (M k) w1→FR C.D n w1 S1 γ1 (F k) a1→wpOps C.P ops Q (List.range' (i0+k) (d+r)) a1 w1:=by
  intro d;induction d with
  |zero =>
   intro k hk1 S1 γ1 w1 a1 hE hW1 hF1;rw[Nat.zero_add];obtain rfl:k=l.length:=by omega
   rw[←hl,h4]at hW1;rw[←hl,h3]at hF1;exact hk S1 γ1 w1 a1 hE hW1 hF1
  |succ d ih =>
   intro k hk1 S1 γ1 w1 a1 hE hW1 hF1;rw[show d+1+r=(d+r)+1 by omega,List.range'_succ,wpOps_cons];have hkl:k<l.length:=by omega
   have ho:l[k]?=some l[k]:=List.getElem?_eq_getElem hkl;obtain⟨ao,hao,hco⟩:=hat2 k l[k] ho;obtain⟨vcj,prj,k1,k2,k3,k4⟩:=h5 k ao hao;rw[Nat.zero_add]at k1 k4;obtain⟨-,-,hdst,hlt,-⟩:=cJ hco;refine dd (hat k _ ho) (bL hW1 hco k1 k2 k3 (fun t _=>hF1.val t) fun u w2 S2 γ2 hE2 hW2 hv=>?_);have:=ih (k+1) (by omega) S2 γ2 w2 (a1.put l[k].dst u) (hE.trans hE2) hW2 (by
    rw[k4,hdst];exact(hF1.ext hE2).put hv hlt)
   exact this
 exact key l.length 0 (by omega) S γ w a (Ext.refl _ _ _) (by rw[h2];exact hW) (by rw[h1];exact hF)
theorem HY {pre suf:List bx} {t:sQ} {cm cm2:Bool} (hs hs2:List (Nat×Hint)) {vc vc2:VC} {pr pr2:List Prop} {f1 f2 f3:AF} {μ1 μ3:AM}
  (he:cV (ah C) (aA C) cm false pre hs 0 [] [] f μ=some (vc,pr,f1,μ1)) (hvc:aI vc) (hpr:aP pr) (ht:zc C t f1 f2)
  (he2:cV (ah C) (aA C) cm2 false suf hs2 0 [] [] f2 μ1=some (vc2,pr2,f3,μ3)) (hvc2:aI vc2) (hpr2:aP pr2) (hR:R .normal f3 μ3):Aw C own n m (.tab pre t suf) R f μ:=by
 intro c hc w0 S γ w a hW hF;obtain⟨id,ops,rfl,hta⟩:=B6 hc;obtain⟨l1,o1,o2,l2,hl,hc1,hto,hc2⟩:=tF hta;obtain⟨ty,x,e,ty2,g1,g2,g3,g4,g5,g6,g7,g8,g9,g10,g11,g12,g13⟩:=B8 hto;obtain⟨hgg,hgr⟩:=B7 g12;have hsz:ops.size=l1.length+(2+l2.length):=by
  rw[←Array.length_toList,hl];simp;omega
 have hops:∀(j:Nat) o,(l1++o1::o2::l2)[j]?=some o→ops[j]?=some o:=fun j o h=>by
  rw[←hl,Array.getElem?_toList]at h;exact h
 refine wp_region ?_;rw[List.range_eq_range',hsz];refine wu (i0:=0) (fun j o h=>?_) hc1 he hvc hpr (fun S1 γ1 w1 a1 hE hW1 hF1=>?_) hW hF
 ·rw[Nat.zero_add];refine hops j o ?_;rw[List.getElem?_append_left (List.getElem?_eq_some_iff.mp h).1];exact h
 have e1:ops[l1.length]?=some o1:=hops _ _ (by rw[List.getElem?_append_right (Nat.le_refl _)];simp);have e2:ops[l1.length+1]?=some o2:=hops _ _ (by rw[List.getElem?_append_right (by omega)];simp);rw[Nat.zero_add,show 2+l2.length=(l2.length+1)+1 by omega,List.range'_succ,wpOps_cons,List.range'_succ];have wp2:∀a2,wpOp C.P ops (Ends C n m w0 w S γ R) (l1.length+1) (wpOps C.P ops (Ends C n m w0 w S γ R) (List.range' (l1.length+1+1) l2.length)) a2 w1→wpOps C.P ops (Ends C n m w0 w S γ R) ((l1.length+1)::List.range' (l1.length+1+1) l2.length) a2 w1:=fun a2 h=>by rw[wpOps_cons];exact h
 have rest:∀u1 u2,VR w1 S1 γ1 .any u1→(∀t',VR w1 S1 γ1 (get f2 t') (((a1.put o1.dst u1).put o2.dst u2).eval (.tmp t')))→wpOps C.P ops (Ends C n m w0 w S γ R) (List.range' (l1.length+1+1) l2.length) ((a1.put o1.dst u1).put o2.dst u2) w1:=by
  intro u1 u2 _ hf2;have hF2:FR C.D n w1 S1 γ1 f2 ((a1.put o1.dst u1).put o2.dst u2):=by
   refine⟨?_,?_,hf2⟩
   ·rw[g2,g4];simp[Act.put,hF1.size]
   rw[g2,g4];exact hF1.defers
  have:=wu (C:=C) (Q:=Ends C n m w0 w S γ R) (i0:=l1.length+1+1) (r:=0) (l:=l2) (own:=own) (fun j o h=>hops _ _ (by
   rw[List.getElem?_append_right (by omega),show l1.length+1+1+j-l1.length=j+1+1 by omega];simpa using h)) hc2 he2 hvc2 hpr2 (fun S3 γ3 w3 a3 hE3 hW3 hF3=>by
    simp only[List.range'_zero,wpOps];exact⟨S3,γ3,f3,μ3,(hE.trans hE3).ue m,hW3,hF3,hR⟩) hW1 hF2
  rw[Nat.add_zero]at this;exact this
 have put2:∀u1 u2 p,VR w1 S1 γ1 p u2→f2=put (put f1 (some t.d1) .any) (some t.d2) p→∀t',VR w1 S1 γ1 (get f2 t') (((a1.put o1.dst u1).put o2.dst u2).eval (.tmp t')):=by
  intro u1 u2 p hp hf;rw[hf,g2,g4];exact((hF1.put (.any u1) (d:=some t.d1) (by rintro _ ⟨⟩;exact g10)).put hp (d:=some t.d2) (by rintro _ ⟨⟩;exact g11)).val
 rcases ht with⟨hgd,k,i,p,hx,h0,h1,hT,hf⟩|⟨s,b,hgd,hgs,hf⟩
 ·
  obtain⟨v,hv,hIs⟩:=hT w1 hW1.E;have hx2:=aO (w:=w1) (S:=S1) (γ:=γ1) (f:=f1) (a:=a1) g6 fun t _=>hF1.val t
  rw[hx]at hx2;have hx2:=dU hx2;have r1:(execOp a1.eval o1).run C.P w1= .ok (.value (.pointer (some ⟨t.g,i.toNat,none⟩))) w1:=by
   have hg0:a1.eval (.global t.g)= .pointer (some ⟨t.g,0,none⟩):=rfl;simp only[execOp,g1,hg0,hx2,Sem.run_bind,gV g5 g9 h0 h1,Result.andThen_ok,Sem.run_pure];simp[Addr.add];omega
  have r2:∀a2:Act,a2.eval (.tmp t.d1)= .pointer (some ⟨t.g,i.toNat,none⟩)→(execOp a2.eval o2).run C.P w1= .ok (.value v) w1:=by
   intro a2 ha2;have hr:=jz (C:=C) (w:=w1) (g:=t.g) (o':=i.toNat) (d:=fun _=>v) g8 g7 rfl (fun j hj=>by
    obtain rfl:j=0:=by omega
    exact hv)
   simp only[execOp,g3,ha2,Instr.loadAt,Instr.sureAddr,Sem.run_bind,Sem.run_pure,Result.andThen_ok,hr,cond_false]
  have hev:((a1.put o1.dst (.pointer (some ⟨t.g,i.toNat,none⟩))).eval (.tmp t.d1))= .pointer (some ⟨t.g,i.toNat,none⟩):=by
   rw[g2];have hlt:t.d1<a1.tmps.size:=by rw[hF1.size];exact g10
   simp[Act.put,Act.eval,Array.getD_eq_getD_getElem?,hlt]
  have step2:∀K':Act→World→Prop,K' ((a1.put o1.dst (.pointer (some ⟨t.g,i.toNat,none⟩))).put o2.dst v) w1→o2.wp C.P (a1.put o1.dst (.pointer (some ⟨t.g,i.toNat,none⟩))) w1 K' (Ends C n m w0 w S γ R):=fun K' hK=>by
   unfold Oper.wp;rw[r2 _ hev];exact hK
  have step1:∀K':Act→World→Prop,K' (a1.put o1.dst (.pointer (some ⟨t.g,i.toNat,none⟩))) w1→o1.wp C.P a1 w1 K' (Ends C n m w0 w S γ R):=fun K' hK=>by
   unfold Oper.wp;rw[r1];exact hK
  have fin:=rest _ v (.any (.pointer (some ⟨t.g,i.toNat,none⟩))) (put2 _ v (.pv p) (.pv _ _ (hIs _)) hf);rcases hgr with⟨hn,-⟩|⟨j,b,s,hj,hs,hgt⟩
  ·refine dd e1 (gr hn (step1 _ (wp2 _ <| dd e2 (gr (hgg.trans hn) (step2 _ fin)))))
  have hb:get f1 s= .pv (.bool b):=by
   rcases hgd with h|⟨s',b',h,h'⟩
   ·rw[hgt]at h;cases h
   rw[hgt]at h;injection h with h;injection h with q1 q2;subst q1 q2;exact h'
  have hv1:=hF1.val s;rw[hb]at hv1;have hv1:=cd hv1;have y1:=ey (a:=a1) hs hv1;have hne:=g13 s b hgt;have hv2:(a1.put o1.dst (.pointer (some ⟨t.g,i.toNat,none⟩))).eval (.tmp s)= .bool b:=by
   rw[←hv1,g2];simp only[Act.put,Act.eval,Array.getD_eq_getD_getElem?];rw[Array.getElem?_setIfInBounds_ne (Ne.symm hne)]
  have y2:=ey (a:=a1.put o1.dst (.pointer (some ⟨t.g,i.toNat,none⟩))) hs hv2;exact dd e1 (dP hj (fun _=>step1 _ (wp2 _ <| dd e2 (dP (hgg.trans hj) (fun _=>step2 _ fin) fun h=>absurd y2 h))) fun h=>absurd y1 h)
 ·
  rcases hgr with⟨-,hn⟩|⟨j,b',s',hj,hsj,hgt⟩
  ·rw[hn]at hgd;cases hgd
  rw[hgt]at hgd;injection hgd with hgd;injection hgd with q1 q2
  subst q1 q2;have hv1:=hF1.val s';rw[hgs]at hv1;have hv1:=cd hv1;have y1:=ey (a:=a1) hsj hv1;have hne:=g13 s' b' hgt;have hv2:(a1.put o1.dst undef).eval (.tmp s')= .bool (!b'):=by
   rw[←hv1,g2];simp only[Act.put,Act.eval,Array.getD_eq_getD_getElem?];rw[Array.getElem?_setIfInBounds_ne (Ne.symm hne)]
  have y2:=ey (a:=a1.put o1.dst undef) hsj hv2;have nb:∀b:Bool,some (!b)≠some b:=by decide
  exact dd e1 (dP hj (fun h=>absurd (y1.symm.trans h) (nb b')) fun _=>wp2 _ <| dd e2 (dP (hgg.trans hj) (fun h=>absurd (y2.symm.trans h) (nb b')) fun _=>rest undef undef (.any _) (put2 undef undef .any (.any _) hf)))
end
end
section
inductive RX where
 |normal
 |exit (id:Nat)
 |ret
def RX.ex:RX→Exit
 | .normal=>.normal
 | .exit i=>.exit i
 | .ret=>.ret
structure HZ where
 x:af
 rs:List iU
 n:Nat
structure jr where
 fns:List (Nat×HZ)
 pure:List (Nat×(List PV→Option PV))
 ref:List (Nat×(AM→List AV→Option (AV×AM)))
 mem:List Nat:=[]
 tab:List (Nat×(Nat→Option PV)):=[]
def H0:List Nat→Nat→Bool
 |[],_=>false
 |k::r,i=>Nat.beq k i||H0 r i
def fZ {α:Type}:List (Nat×α)→Nat→Option α
 |[],_=>none
 |(k,x)::r,i=>bif Nat.beq k i then some x else fZ r i
abbrev RR:=Option (RX×AF×AM)
abbrev wv:=af→AF→AM→RR
def EJ (rs:List iU) (f:AF) (μ:AM):Option PV:=match bM f μ rs with
 |some (vc,v)=>bif dK vc then fD μ depth v else none
 |none=>none
def tG (T:jr) (ih:wv) (g:Nat) (ps:List PV):Option PV:=match fZ T.pure g with
 |some s=>s ps
 |none=>match fZ T.fns g with
  |some e=>bif Nat.ble ps.length e.n then (match ih e.x (jR 0 (ps.map .pv)) [] with
    |some (.normal,f,μ)=>EJ e.rs f μ
    |some (.ret,f,μ)=>EJ e.rs f μ
    |_=>none) else none
  |none=>none
def EK (rs:List iU) (k:Nat) (f:AF) (μ:AM):Option (AV×AM):=match bM f μ rs with
 |some (vc,v)=>bif dK vc&&Nat.ble k μ.length then
   (bif cC 3 k v&&aY (μ.take k) k then some (v,μ.take k) else bif cC 3 μ.length v&&aY μ μ.length then some (v,μ) else none) else none
 |none=>none
def mK (T:jr) (ih:wv) (g:Nat) (as:List AV) (μ:AM):Option (AV×AM):=match fZ T.ref g with
 |some s=>s μ as
 |none=>match fZ T.fns g with
  |some e=>bif Nat.ble as.length e.n then (match ih e.x (jR 0 as) μ with
    |some (.normal,f,μ')=>EK e.rs μ.length f μ'
    |some (.ret,f,μ')=>EK e.rs μ.length f μ'
    |_=>none) else none
  |none=>none
def wx (T:jr) (ih:wv) (μ:AM) (g:Nat) (as:List AV):Option (AV×AM):=match gI μ as with
 |some ps=>match tG T ih g ps with
  |some r=>some (.pv r,after μ false as r)
  |none=>none
 |none=>none
def nh (T:jr) (ih:wv) (dr:Bool) (μ:AM) (g:Nat) (as:List AV):Option (AV×AM):=match refsOf as with
 |[]=>match (bif !dr&&H0 T.mem g then mK T ih g as μ else none) with
  |some r=>some r
  |none=>match wx T ih μ g as with
   |some r=>some r
   |none=>bif dr then none else mK T ih g as μ
 |_::_=>match dr with
  |false=>match mK T ih g as μ with
   |some r=>some r
   |none=>wx T ih μ g as
  |true=>match wx T ih μ g as with
   |some (v,μ')=>bif dD v then some (v,μ') else none
   |none=>none
def runK (T:jr) (ih:wv) (dr:Bool) (f:AF) (μ:AM):K→Option (AV×AM)
 | .call g args=>nh T ih dr μ g (args.map (ev f))
 | .callv x args=>match ev f x with
  | .fn g caps=>nh T ih dr μ g (args.map (ev f)++caps)
  | .bm g first=>nh T ih dr μ g (first++args.map (ev f))
  | .pv (.val (.func (.func g) ⟨[]⟩ ⟨[]⟩))=>nh T ih dr μ g (args.map (ev f))
  |_=>none
 |k=>match cT f μ 0 k with
  |some (vc,v,μ')=>bif dK vc then some (v,μ') else (match cT f μ 1 k with
   |some (vc,v,μ')=>bif dK vc then some (v,μ') else none
   |none=>none)
  |none=>none
def B9:Value→Value→Bool
 | .pointer none,.pointer none=>true
 | .map none,.map none=>true
 | .nilFunc,.nilFunc=>true
 | .nilIface,.nilIface=>true
 | .func (.func f) ⟨[]⟩ ⟨[]⟩,.func (.func g) ⟨[]⟩ ⟨[]⟩=>Nat.beq f g
 |_,_=>false
theorem Ca {a b:Value} (h:B9 a b=true):a=b:=by
 unfold B9 at h;split at h<;>first|rfl|(cases h;done)|(rw[Nat.eq_of_beq_eq_true h])
mutual
def oZ:PV→PV→Bool
 | .int k a,.int k' b=>k==k'&&a==b
 | .bool a,.bool b=>a==b
 | .str a,.str b=>a==b
 | .agg l,.agg m=>jl l m
 | .tup l,.tup m=>jl l m
 | .nilsl,.nilsl=>true
 | .sl n l,.sl m r=>Nat.beq n m&&jl l r
 | .val a,.val b=>B9 a b
 | .mp l,.mp m=>jl l m
 |_,_=>false
def jl:List PV→List PV→Bool
 |[],[]=>true
 |a::l,b::m=>oZ a b&&jl l m
 |_,_=>false
end
mutual
theorem zd:∀{a b:PV},oZ a b=true→a=b
 | .int k a,b,h=>by
  cases b<;>simp[oZ]at h;rw[h.1,h.2]
 | .bool a,b,h=>by
  cases b<;>simp[oZ]at h;rw[h]
 | .str a,b,h=>by
  cases b<;>simp[oZ]at h;rw[h]
 | .agg l,b,h=>by
  cases b<;>simp only[oZ]at h<;>first|(cases h;done)|rw[fQ h]
 | .tup l,b,h=>by
  cases b<;>simp only[oZ]at h<;>first|(cases h;done)|rw[fQ h]
 | .nilsl,b,h=>by
  cases b<;>simp only[oZ]at h<;>first|(cases h;done)|rfl
 | .sl n l,b,h=>by
  cases b<;>simp only[oZ,Bool.and_eq_true]at h<;>first|(cases h;done)|rw[Nat.eq_of_beq_eq_true h.1,fQ h.2]
 | .val a,b,h=>by
  cases b<;>simp only[oZ]at h<;>first|(cases h;done)|rw[Ca h]
 | .iface,b,h=>by
  cases b<;>simp only[oZ]at h<;>(cases h;done)
 | .mp l,b,h=>by
  cases b<;>simp only[oZ]at h<;>first|(cases h;done)|rw[fQ h]
theorem fQ:∀{a b:List PV},jl a b=true→a=b
 |[],b,h=>by
  cases b<;>simp only[jl]at h<;>first|(cases h;done)|rfl
 |x::l,b,h=>by
  cases b<;>simp only[jl,Bool.and_eq_true]at h<;>first|(cases h;done)|rw[zd h.1,fQ h.2]
end
mutual
def o7:AV→AV→Bool
 | .pv p,.pv q=>oZ p q
 | .ref a b c d,.ref a' b' c' d'=>Nat.beq a a'&&Nat.beq b b'&&Nat.beq c c'&&Nat.beq d d'
 | .ptr a b c,.ptr a' b' c'=>Nat.beq a a'&&Nat.beq b b'&&Nat.beq c c'
 | .iptr l n,.iptr m k=>jl l m&&Nat.beq n k
 | .agg l,.agg m=>og l m
 | .tup l,.tup m=>og l m
 | .fn f l,.fn g m=>Nat.beq f g&&og l m
 | .bm f l,.bm g m=>Nat.beq f g&&og l m
 | .map a b,.map a' b'=>Nat.beq a a'&&Nat.beq b b'
 |_,_=>false
def og:List AV→List AV→Bool
 |[],[]=>true
 |a::l,b::m=>o7 a b&&og l m
 |_,_=>false
end
mutual
theorem EL:∀{a b:AV},o7 a b=true→a=b
 | .pv p,b,h=>by
  cases b<;>simp only[o7]at h<;>first|(cases h;done)|rw[zd h]
 | .ref _ _ _ _,b,h=>by
  cases b<;>simp only[o7,Bool.and_eq_true,Nat.beq_eq]at h<;>first|(cases h;done)|(obtain⟨⟨⟨rfl,rfl⟩,rfl⟩,rfl⟩:=h;rfl)
 | .ptr _ _ _,b,h=>by
  cases b<;>simp only[o7,Bool.and_eq_true,Nat.beq_eq]at h<;>first|(cases h;done)|(obtain⟨⟨rfl,rfl⟩,rfl⟩:=h;rfl)
 | .iptr l n,b,h=>by
  cases b<;>simp only[o7,Bool.and_eq_true]at h<;>first|(cases h;done)|rw[fQ h.1,Nat.eq_of_beq_eq_true h.2]
 | .agg l,b,h=>by
  cases b<;>simp only[o7]at h<;>first|(cases h;done)|rw[jU h]
 | .tup l,b,h=>by
  cases b<;>simp only[o7]at h<;>first|(cases h;done)|rw[jU h]
 | .fn f l,b,h=>by
  cases b<;>simp only[o7,Bool.and_eq_true]at h<;>first|(cases h;done)|rw[Nat.eq_of_beq_eq_true h.1,jU h.2]
 | .bm f l,b,h=>by
  cases b<;>simp only[o7,Bool.and_eq_true]at h<;>first|(cases h;done)|rw[Nat.eq_of_beq_eq_true h.1,jU h.2]
 | .map _ _,b,h=>by
  cases b<;>simp only[o7,Bool.and_eq_true,Nat.beq_eq]at h<;>first|(cases h;done)|(obtain⟨rfl,rfl⟩:=h;rfl)
 | .ifb _ _,b,h=>by
  cases b<;>simp only[o7]at h<;>(cases h;done)
 | .any,b,h=>by
  cases b<;>simp only[o7]at h<;>(cases h;done)
theorem jU:∀{a b:List AV},og a b=true→a=b
 |[],b,h=>by
  cases b<;>simp only[og]at h<;>first|(cases h;done)|rfl
 |x::l,b,h=>by
  cases b<;>simp only[og,Bool.and_eq_true]at h<;>first|(cases h;done)|rw[EL h.1,jU h.2]
end
def rB:AM→AM→Bool
 |[],[]=>true
 |x::l,y::m=>og x.cells y.cells&&Nat.beq x.gen y.gen&&Nat.beq x.sz y.sz&&Nat.beq x.elem y.elem&&(x.frozen==y.frozen)&&rB l m
 |_,_=>false
theorem wy:∀{a b:AM},rB a b=true→a=b
 |[],b,h=>by
  cases b<;>simp only[rB]at h<;>first|(cases h;done)|rfl
 |⟨c,g,s,e,z⟩::l,b,h=>by
  cases b with
  |nil=>simp only[rB]at h;cases h
  |cons y m =>
   obtain⟨c',g',s',e',z'⟩:=y;simp only[rB,Bool.and_eq_true,Nat.beq_eq,beq_iff_eq]at h;obtain⟨⟨⟨⟨⟨h1,rfl⟩,rfl⟩,rfl⟩,rfl⟩,h6⟩:=h;rw[jU h1,wy h6]
def oh (μ:AM):Option (AV×AM)→Option (AV×AM)
 |some (v,μ')=>bif rB μ' μ then some (v,μ) else none
 |none=>none
def Cb (T:jr) (ih:wv) (f:AF) (μ:AM):K→Option (AV×AM)
 | .call g args=>oh μ (mK T ih g (args.map (ev f)) μ)
 | .callv x args=>match ev f x with
  | .fn g caps=>oh μ (mK T ih g (args.map (ev f)++caps) μ)
  | .bm g first=>oh μ (mK T ih g (first++args.map (ev f)) μ)
  |_=>none
 |_=>none
def zg (T:jr) (ih:wv) (dr:Bool) (f:AF) (μ:AM) (k:K):Option (AV×AM):=match runK T ih dr f μ k with
 |some r=>some r
 |none=>bif dr then Cb T ih f μ k else none
def EM (f:AF) (d:Option Nat):Option (AV×AM)→Option (AF×AM)
 |some (v,μ)=>some (put f d v,μ)
 |none=>none
def zh (T:jr) (ih:wv) (dr:Bool) (f:AF) (μ:AM) (o:bx):Option (AF×AM):=match o.guard with
 |none=>EM f o.dst (zg T ih dr f μ o.k)
 |some (t,want)=>match get f t with
  | .pv (.bool b)=>match (bif want then b else !b) with
   |true=>EM f o.dst (zg T ih dr f μ o.k)
   |false=>some (put f o.dst .any,μ)
  |_=>none
def lW (T:jr) (ih:wv) (dr:Bool):List bx→AF→AM→Option (AF×AM)
 |[],f,μ=>some (f,μ)
 |o::os,f,μ=>match zh T ih dr f μ o with
  |some (f',μ')=>lW T ih dr os f' μ'
  |none=>none
def Cc:AV→Bool
 | .ifb _ _=>true
 |_=>false
def clean (f:AF):List Nat→Bool
 |[]=>true
 |t::r=>!(Cc (get f t))&&clean f r
def ya (T:jr) (ih:wv) (f:AF) (μ:AM) (o:bx):Option (dt×AF×AM):=match o.guard with
 |some _=>none
 |none=>bif clean f (tmpsOf o.k) then (match o.k with
  | .pick c a b=>match eJ true f c a b with
   |some ([],v)=>some (aV μ f {} o.k,put f o.dst v,μ)
   |_=>none
  |k=>match runK T ih true f μ k with
   |some (v,μ')=>some (aV μ f {} o.k,put f o.dst v,μ')
   |none=>none) else none
def oi (T:jr) (ih:wv):List bx→List dt→AF→AM→Option (List dt×AF×AM)
 |[],fs,f,μ=>some (fs,f,μ)
 |o::os,fs,f,μ=>match ya T ih f μ o with
  |some (x,f',μ')=>oi T ih os (fs++[x]) f' μ'
  |none=>none
def my:AF→Nat→AF
 |[],_=>[]
 |(t,v)::r,m=>bif Nat.beq (Nat.land (Nat.shiftRight m t) 1) 1 then my r m else (t,v)::my r (Nat.lor m (Nat.shiftLeft 1 t))
def FY:Option (AF×AM)→RR
 |some (f,μ)=>some (.normal,f,μ)
 |none=>none
def FZ (T:jr) (ih:wv) (al:List bx) (f:AF) (μ:AM):Option (AF×AM):=match lW T ih true al.dropLast f μ with
 |some (f1,μ1)=>match al.getLast? with
  |some o=>zh T ih false f1 μ1 o
  |none=>none
 |none=>none
def yb (T:jr) (t:sQ) (f:AF):Option AF :=
 let go:Option AF:=match ev f t.x with
  | .pv (.int _ i)=>match fZ T.tab t.g with
   |some l=>bif decide (0≤i)&&decide (i+1≤t.len) then match l i.toNat with
    |some p=>some (put (put f (some t.d1) .any) (some t.d2) (.pv p))
    |none=>none
    else none
   |none=>none
  |_=>none
 match t.grd with
 |none=>go
 |some (s,b)=>match get f s with
  | .pv (.bool c)=>bif c==b then go else some (put (put f (some t.d1) .any) (some t.d2) .any)
  |_=>none
def jG (T:jr) (ih:wv):af→AF→AM→RR
 | .skip,f,μ=>some (.normal,f,μ)
 | .region dr al,f,μ=>match lW T ih dr al f μ with
  |some (f',μ')=>some (.normal,f',μ')
  |none=>bif dr&&p8 al then FY (FZ T ih al f μ) else none
 | .regionF al free,f,μ=>match oi T ih al [] f μ with
  |some (fs,f',μ')=>bif eK fs free then some (.normal,f',μ') else none
  |none=>none
 | .seq a b,f,μ=>match ih a f μ with
  |some (.normal,f',μ')=>ih b f' μ'
  |r=>r
 | .cond o x y,f,μ=>match ev f o with
  | .pv (.bool true)=>ih x f μ
  | .pv (.bool false)=>ih y f μ
  |_=>none
 | .block id x,f,μ=>match ih x f μ with
  |some (.exit i,f',μ')=>bif Nat.beq i id then some (.normal,f',μ') else some (.exit i,f',μ')
  |r=>r
 | .loop x,f,μ=>match ih x f μ with
  |some (.normal,f',μ')=>ih (.loop x) (my f' 0) μ'
  |r=>r
 | .exit id,f,μ=>some (.exit id,f,μ)
 | .ret,f,μ=>some (.ret,f,μ)
 | .range _ _ _ _,_,_=>none
 | .stuck,_,_=>none
 | .raw _,_,_=>none
 | .tab p t s,f,μ=>match lW T ih false p f μ with
  |some (f1,μ1)=>match yb T t f1 with
   |some f2=>match lW T ih false s f2 μ1 with
    |some (f3,μ3)=>some (.normal,f3,μ3)
    |none=>none
   |none=>none
  |none=>none
noncomputable def run (T:jr) (k:Nat):wv:=Nat.rec (motive:=fun _=>wv) (fun _ _ _=>none) (fun _ ih=>jG T ih) k
theorem wz (T:jr) (k:Nat):run T (k+1)=jG T (run T k):=rfl
section
variable {C:Ctx}
structure gf (C:Ctx) (T:jr):Prop where
 dz:C.D=[]∨T.fns=[]
 fns:∀g e,fZ T.fns g=some e→∃own,aD C.P g own=some (e.x,e.rs,e.n,true)
 pure:∀g s,fZ T.pure g=some s→∀ps r,s ps=some r→ah C g ps r
 ref:∀g s,fZ T.ref g=some s→∀μ as r μ',s μ as=some (r,μ')→aA C g as μ r μ'
 tab:∀g l,fZ T.tab g=some l→∀(i:Nat) p,l i=some p→zb C g i p
def F0 (e:Exit) (f:AF) (μ:AM):Exit→AF→AM→Prop:=fun e' f' μ'=>e'=e∧f'=f∧μ'=μ
def zi (C:Ctx) (ih:wv):Prop:=∀x f μ e f' μ',ih x f μ=some (e,f',μ')→∀own n m,Aw C own n m x (F0 e.ex f' μ') f μ
theorem fB:∀{l:List (Int×Int)},dK l=true→aI l
 |[],_=>trivial
 |(a,b)::l,h=>by
  simp only[dK,dK.Int.ble',Bool.and_eq_true,decide_eq_true_eq]at h;exact⟨h.1,fB h.2⟩
variable {T:jr} {ih:wv}
theorem F3 (hT:gf C T) {g:Nat} {e:HZ} (h:fZ T.fns g=some e) {k:Nat} (hk:Nat.ble k e.n=true):∃own,Fn C g own e.n k e.rs e.x:=by
 obtain⟨own,h1⟩:=hT.fns g e h;rcases hT.dz with hd|hd
 ·exact⟨own,Fn.of h1 (by rw[hk,hd];rfl)⟩
 rw[hd]at h;cases h
theorem fk (hT:gf C T) (hi:zi C ih) {g:Nat} {ps:List PV} {r:PV} (h:tG T ih g ps=some r):ah C g ps r:=by
 unfold tG at h;split at h
 ·rename_i s hs;exact hT.pure g s hs ps r h
 split at h
 ·rename_i e he;cases hb:Nat.ble ps.length e.n with
  |false=>rw[hb,cond_false]at h;cases h
  |true =>
   rw[hb,cond_true]at h;obtain⟨own,hF⟩:=F3 hT he hb;have fin:∀{f:AF} {μ:AM},EJ e.rs f μ=some r→nW μ r (bM f μ e.rs):=fun {f μ} h=>by
    unfold EJ at h;unfold nW;split at h
    ·rename_i vc v hv;try rw[hv]
     cases hc:dK vc with
     |false=>rw[hc,cond_false]at h;cases h
     |true=>rw[hc,cond_true]at h;exact⟨fB hc,h⟩
    cases h
   split at h
   ·rename_i f μ hr;exact aj hF rfl (dE (hi _ _ _ _ _ _ hr own e.n 0) fun e' f' μ' hh=>by obtain⟨rfl,rfl,rfl⟩:=hh;exact fin h)
   ·rename_i f μ hr;exact aj hF rfl (dE (hi _ _ _ _ _ _ hr own e.n 0) fun e' f' μ' hh=>by obtain⟨rfl,rfl,rfl⟩:=hh;exact fin h)
   cases h
 cases h
theorem wA (hT:gf C T) (hi:zi C ih) {g:Nat} {as:List AV} {μ:AM} {r:AV} {μ1:AM} (h:mK T ih g as μ=some (r,μ1)):aA C g as μ r μ1:=by
 unfold mK at h;split at h
 ·rename_i s hs;exact hT.ref g s hs μ as r μ1 h
 split at h
 ·rename_i e he;cases hb:Nat.ble as.length e.n with
  |false=>rw[hb,cond_false]at h;cases h
  |true =>
   rw[hb,cond_true]at h;obtain⟨own,hF⟩:=F3 hT he hb;have fin:∀{f:AF} {μ':AM},EK e.rs μ.length f μ'=some (r,μ1)→μ.length≤μ1.length∧cC 3 μ1.length r=true∧aY μ1 μ1.length=true∧pO r (bM f μ' e.rs)∧∃junk,μ'=μ1++junk:=fun {f μ'} h=>by
    unfold EK at h;unfold pO;split at h
    ·rename_i vc v hv;try rw[hv]
     cases hc:dK vc&&Nat.ble μ.length μ'.length with
     |false=>rw[hc,cond_false]at h;cases h
     |true =>
      rw[hc,cond_true]at h;rw[Bool.and_eq_true]at hc;have hle:=Nat.le_of_ble_eq_true hc.2;have hlt:(μ'.take μ.length).length=μ.length:=by rw[List.length_take];omega
      cases hb1:cC 3 μ.length v&&aY (μ'.take μ.length) μ.length with
      |true =>
       rw[hb1,cond_true]at h;injection h with h;injection h with e1 e2
       subst e1 e2;rw[Bool.and_eq_true]at hb1;rw[hlt];exact⟨Nat.le_refl _,hb1.1,hb1.2,⟨fB hc.1,rfl⟩,_,(List.take_append_drop _ _).symm⟩
      |false =>
       rw[hb1,cond_false]at h;cases hb2:cC 3 μ'.length v&&aY μ' μ'.length with
       |false=>rw[hb2,cond_false]at h;cases h
       |true =>
        rw[hb2,cond_true]at h;injection h with h;injection h with e1 e2
        subst e1 e2;rw[Bool.and_eq_true]at hb2;exact⟨hle,hb2.1,hb2.2,⟨fB hc.1,rfl⟩,[],(List.append_nil _).symm⟩
    cases h
   split at h
   ·rename_i f μ' hr;obtain⟨q1,q2,q3,q4,q5⟩:=fin h;exact aH hF rfl q1 q2 q3 (dE (hi _ _ _ _ _ _ hr own e.n _) fun e' f' μ' hh=>by obtain⟨rfl,rfl,rfl⟩:=hh;exact⟨q4,q5⟩)
   ·rename_i f μ' hr;obtain⟨q1,q2,q3,q4,q5⟩:=fin h;exact aH hF rfl q1 q2 q3 (dE (hi _ _ _ _ _ _ hr own e.n _) fun e' f' μ' hh=>by obtain⟨rfl,rfl,rfl⟩:=hh;exact⟨q4,q5⟩)
   cases h
 cases h
def yc (C:Ctx) (dr:Bool) (μ:AM) (g:Nat) (as:List AV) (v:AV) (μ':AM) (h:Hint):Prop :=
 (∃pr,dW (ah C) (aA C) μ h g as=some ([],pr,v,μ')∧aP pr)∧(dr=true→h.mem=none∧h.ro=false∧h.frz=false∧((refsOf as).isEmpty||dD v)=true)
theorem rC (hT:gf C T) (hi:zi C ih) {μ:AM} {g:Nat} {as:List AV} {v:AV} {μ':AM} (h:wx T ih μ g as=some (v,μ')) (dr:Bool) (hd:dr=true→((refsOf as).isEmpty||dD v)=true):∃h,yc C dr μ g as v μ' h:=by
 unfold wx at h;split at h
 ·rename_i ps hps;split at h
  ·rename_i r hr;injection h with h;injection h with e1 e2
   subst e1 e2;exact⟨{val:=some (.pv r),args:=some ps},⟨_,rfl,hps,fk hT hi hr,trivial⟩,fun h=>⟨rfl,rfl,rfl,hd h⟩⟩
  cases h
 cases h
theorem uE (hT:gf C T) (hi:zi C ih) {μ:AM} {g:Nat} {as:List AV} {v:AV} {μ':AM} (h:mK T ih g as μ=some (v,μ')):∃h,yc C false μ g as v μ' h :=
 ⟨{val:=some v,mem:=some μ'},⟨_,rfl,wA hT hi h,trivial⟩,fun h=>by cases h⟩
theorem At (hT:gf C T) (hi:zi C ih) {dr:Bool} {μ:AM} {g:Nat} {as:List AV} {v:AV} {μ':AM} (h:nh T ih dr μ g as=some (v,μ')):∃h,yc C dr μ g as v μ' h:=by
 unfold nh at h;split at h
 ·rename_i hr;split at h
  ·rename_i r hp;injection h with h
   subst h;cases hb:(!dr&&H0 T.mem g) with
   |false=>rw[hb]at hp;cases hp
   |true =>
    rw[hb]at hp;cases dr with
    |true=>cases hb
    |false=>exact uE hT hi hp
  split at h
  ·rename_i r hp;injection h with h
   subst h;exact rC hT hi hp dr fun _=>by rw[hr];rfl
  cases dr with
  |true=>cases h
  |false=>exact uE hT hi h
 cases dr with
 |false =>
  simp only at h;split at h
  ·rename_i r hp;injection h with h
   subst h;exact uE hT hi hp
  exact rC hT hi h false fun h=>by cases h
 |true =>
  simp only at h;split at h
  ·rename_i v' μ1 hp;cases hs:dD v' with
   |false=>rw[hs,cond_false]at h;cases h
   |true =>
    rw[hs,cond_true]at h;injection h with h;injection h with e1 e2
    subst e1 e2;exact rC hT hi hp true fun _=>by rw[hs,Bool.or_true]
  cases h
def Ce:K→Bool
 | .call _ _=>true
 | .callv _ _=>true
 |_=>false
theorem zj (hT:gf C T) (hi:zi C ih) {dr:Bool} {f:AF} {μ:AM} {k:K} {v:AV} {μ':AM} (h:runK T ih dr f μ k=some (v,μ')) :
  ∃hn vc pr,bG (ah C) (aA C) f μ hn k=some (vc,pr,v,μ')∧aI vc∧aP pr∧quiet dr hn f k v=true∧(dr=true→hn.mem=none∧hn.ro=false):=by
 have call:∀{g:Nat} {as:List AV},nh T ih dr μ g as=some (v,μ')→(∀hn,bG (ah C) (aA C) f μ hn k=dW (ah C) (aA C) μ hn g as)→Ce k=true→(cP f k v=((refsOf as).isEmpty||dD v)) →
   ∃hn vc pr,bG (ah C) (aA C) f μ hn k=some (vc,pr,v,μ')∧aI vc∧aP pr∧quiet dr hn f k v=true∧(dr=true→hn.mem=none∧hn.ro=false):=fun {g as} hc he hk hs=>by
  obtain⟨hn,⟨pr,h1,h2⟩,h3⟩:=At hT hi hc;refine⟨hn,[],pr,(he hn).trans h1,trivial,h2,?_,fun hd=>⟨(h3 hd).1,(h3 hd).2.1⟩⟩;cases dr with
  |false=>rfl
  |true =>
   obtain⟨q1,q2,q3,q4⟩:=h3 rfl;have:quiet.isCallK k=true:=by
    cases k<;>first|rfl|cases hk
   simp only[quiet,this,q1,q2,q3,hs,q4];rfl
 have plain:(match cT f μ 0 k with
  |some (vc,v,μ')=>bif dK vc then some (v,μ') else (match cT f μ 1 k with
   |some (vc,v,μ')=>bif dK vc then some (v,μ') else none
   |none=>none)
  |none=>none)=some (v,μ')→Ce k=false→(∀hn,hn.val=none→bG (ah C) (aA C) f μ hn k=match cT f μ hn.mode k with
   |some (vc,v,μ')=>some (vc,[],v,μ')
   |none=>none)→∃hn vc pr,bG (ah C) (aA C) f μ hn k=some (vc,pr,v,μ')∧aI vc∧aP pr∧quiet dr hn f k v=true∧(dr=true→hn.mem=none∧hn.ro=false):=fun h hk he=>by
  have hq:∀hn:Hint,quiet dr hn f k v=true:=fun hn=>by
   cases dr with
   |false=>rfl
   |true =>
    have:quiet.isCallK k=false:=by cases k<;>first|rfl|cases hk
    simp only[quiet,this]
  split at h
  ·rename_i vc v1 μ1 h0;cases hc:dK vc with
   |true =>
    rw[hc,cond_true]at h;injection h with h;injection h with e1 e2
    subst e1 e2;exact⟨{mode:=0},vc,[],by rw[he _ rfl,h0],fB hc,trivial,hq _,fun _=>⟨rfl,rfl⟩⟩
   |false =>
    rw[hc,cond_false]at h;split at h
    ·rename_i vc2 v2 μ2 h1;cases hc2:dK vc2 with
     |true =>
      rw[hc2,cond_true]at h;injection h with h;injection h with e1 e2
      subst e1 e2;exact⟨{mode:=1},vc2,[],by rw[he _ rfl,h1],fB hc2,trivial,hq _,fun _=>⟨rfl,rfl⟩⟩
     |false=>rw[hc2,cond_false]at h;cases h
    cases h
  cases h
 have evRun_plain:Ce k=false→∀hn:Hint,hn.val=none→bG (ah C) (aA C) f μ hn k=match cT f μ hn.mode k with
   |some (vc,v,μ')=>some (vc,[],v,μ')
   |none=>none:=fun hk hn hv=>by
  cases k<;>first|(simp only[bG,hv];done)|(simp only[bG,hv];rfl)|cases hk
 cases k with
 |call g args=>exact call h (fun _=>rfl) rfl rfl
 |callv x args =>
  simp only[runK]at h;split at h
  ·rename_i g caps hg;exact call h (fun _=>by simp only[bG,hg]) rfl (by simp only[cP,hg])
  ·rename_i g first hg
   exact call h (fun _=>by simp only[bG,hg]) rfl (by simp only[cP,hg])
  ·rename_i g hg;exact call h (fun _=>by simp only[bG,hg]) rfl (by simp only[cP,hg])
  cases h
 |_=>exact plain h rfl (evRun_plain rfl)
theorem wB (hT:gf C T) (hi:zi C ih) {dr:Bool} {f:AF} {μ:AM} {k:K} {v:AV} {μ':AM} (h:zg T ih dr f μ k=some (v,μ')) :
  ∃hn vc pr,bG (ah C) (aA C) f μ hn k=some (vc,pr,v,μ')∧aI vc∧aP pr∧quiet dr hn f k v=true:=by
 unfold zg at h;split at h
 ·rename_i r hr;injection h with h
  subst h;obtain⟨hn,vc,pr,h1,h2,h3,h4,-⟩:=zj hT hi hr;exact⟨hn,vc,pr,h1,h2,h3,h4⟩
 cases dr with
 |false=>cases h
 |true =>
  rw[cond_true]at h;have kp:∀{g:Nat} {as:List AV},oh μ (mK T ih g as μ)=some (v,μ')→μ'=μ∧aA C g as μ v μ:=fun {g as} h=>by
   unfold oh at h;split at h
   ·rename_i v1 μ1 hc;cases he:rB μ1 μ with
    |false=>rw[he,cond_false]at h;cases h
    |true =>
     rw[he,cond_true]at h;injection h with h;injection h with e1 e2
     subst e1 e2;have:=wy he;subst this;exact⟨rfl,wA hT hi hc⟩
   cases h
  unfold Cb at h;split at h
  ·obtain⟨rfl,h2⟩:=kp h;exact⟨{val:=some v,ro:=true},[],_,rfl,trivial,⟨h2,trivial⟩,rfl⟩
  ·split at h
   ·rename_i hg;obtain⟨rfl,h2⟩:=kp h;exact⟨{val:=some v,ro:=true},[],[_],by simp only[bG,hg];rfl,trivial,⟨h2,trivial⟩,rfl⟩
   ·rename_i hg;obtain⟨rfl,h2⟩:=kp h;exact⟨{val:=some v,ro:=true},[],[_],by simp only[bG,hg];rfl,trivial,⟨h2,trivial⟩,rfl⟩
   cases h
  cases h
theorem tH {f:AF} {d:Option Nat} {x:Option (AV×AM)} {f':AF} {μ':AM} (h:EM f d x=some (f',μ')):∃v,x=some (v,μ')∧f'=put f d v:=by
 unfold EM at h;split at h
 ·rename_i v μ;injection h with h;injection h with e1 e2
  subst e1 e2;exact⟨v,rfl,rfl⟩
 cases h
theorem wC (hT:gf C T) (hi:zi C ih) {dr:Bool} {f:AF} {μ:AM} {o:bx} {f':AF} {μ':AM} (h:zh T ih dr f μ o=some (f',μ')) :
  ∃hn vc pr,ff (ah C) (aA C) false dr f μ o hn=some (vc,pr,f',μ')∧aI vc∧aP pr:=by
 unfold zh at h;unfold ff cI;split at h
 ·rename_i hg;obtain⟨v,h1,rfl⟩:=tH h;obtain⟨hn,vc,pr,h2,h3,h4,h5⟩:=wB hT hi h1;exact⟨hn,vc,pr,by simp only[hg,h2,h5,cond_true],h3,h4⟩
 rename_i t want hg;split at h
 ·rename_i b hb;split at h
  ·rename_i hw;obtain⟨v,h1,rfl⟩:=tH h;obtain⟨hn,vc,pr,h2,h3,h4,h5⟩:=wB hT hi h1;exact⟨hn,vc,pr,by simp only[hg,hb,hw,h2,h5,cond_true],h3,h4⟩
  rename_i hw;injection h with h;injection h with e1 e2
  subst e1 e2;exact⟨{},[],[],by simp only[hg,hb,hw],trivial,trivial⟩
 cases h
theorem yd:∀{l m:List (Int×Int)},aI l→aI m→aI (l++m)
 |[],_,_,h=>h
 |(_,_)::_,_,h,k=>⟨h.1,yd h.2 k⟩
theorem ye:∀{l m:List Prop},aP l→aP m→aP (l++m)
 |[],_,_,h=>h
 |_::_,_,h,k=>⟨h.1,ye h.2 k⟩
theorem jV (hT:gf C T) (hi:zi C ih) {dr:Bool}:∀(al:List bx) (i:Nat) (vc:VC) (pr:List Prop) (f:AF) (μ:AM) {f':AF} {μ':AM},lW T ih dr al f μ=some (f',μ')→aI vc→aP pr →
  ∃hs vc' pr',cV (ah C) (aA C) false dr al hs i vc pr f μ=some (vc',pr',f',μ')∧aI vc'∧aP pr'
 |[],i,vc,pr,f,μ,f',μ',h,hv,hp=>by
  simp only[lW]at h;injection h with h;injection h with e1 e2
  subst e1 e2;exact⟨[],vc,pr,rfl,hv,hp⟩
 |o::os,i,vc,pr,f,μ,f',μ',h,hv,hp=>by
  simp only[lW]at h;split at h
  ·rename_i f1 μ1 h1;obtain⟨hn,vc1,pr1,g1,g2,g3⟩:=wC hT hi h1;obtain⟨hs,vc',pr',q1,q2,q3⟩:=jV hT hi os (i+1) (vc1++vc) (pr1++pr) f1 μ1 h (yd g2 hv) (ye g3 hp);refine⟨(i,hn)::hs,vc',pr',?_,q2,q3⟩;simp only[cV,bZ,g1];rw[←q1];exact jF os (i+1) _ _ _ _ fun j hj=>dA (by omega)
  cases h
theorem lX {f:AF}:∀{l:List Nat},clean f l=true→aN f l=f∧∀c,conds c f l=[]
 |[],_=>⟨rfl,fun _=>rfl⟩
 |t::r,h=>by
  simp only[clean,Bool.and_eq_true,Bool.not_eq_true']at h;obtain⟨h1,h2⟩:=lX h.2;constructor
  ·simp only[aN];generalize get f t=q at h;cases q<;>first|exact h1|(simp[Cc]at h)
  intro c;simp only[conds];generalize get f t=q at h;cases q<;>first|exact h2 c|(simp[Cc]at h)
theorem Au {μ:AM} {f:AF} {h:Hint} {k:K} (hb:∀g as,k≠.callB g as) (h1:h.mem=none) (h2:h.ro=false):aV μ f h k=aV μ f {} k:=by
 cases k<;>first|exact absurd rfl (hb _ _)|simp only[aV,h1,h2]
theorem Av (hT:gf C T) (hi:zi C ih) {f:AF} {μ:AM} {o:bx} {x:dt} {f':AF} {μ':AM} (h:ya T ih f μ o=some (x,f',μ')) :
  ∃hn vc pr,ff (ah C) (aA C) true true f μ o hn=some (vc,pr,f',μ')∧aI vc∧aP pr∧aV μ (aN f (tmpsOf o.k)) hn o.k=x:=by
 unfold ya at h;split at h
 ·cases h
 rename_i hg;cases hc:clean f (tmpsOf o.k) with
 |false=>rw[hc,cond_false]at h;cases h
 |true =>
  rw[hc,cond_true]at h;obtain⟨c1,c2⟩:=lX hc;rw[c1];have gen:∀{k:K},o.k=k→(∀c a b,k≠.pick c a b)→(match runK T ih true f μ k with
    |some (v,μ')=>some (aV μ f {} o.k,put f o.dst v,μ')
    |none=>none)=some (x,f',μ')→∃hn vc pr,ff (ah C) (aA C) true true f μ o hn=some (vc,pr,f',μ')∧aI vc∧aP pr∧aV μ f hn o.k=x:=fun {k} hk hn h=>by
   split at h
   ·rename_i v μ1 h1;injection h with h;injection h with e1 h;injection h with e2 e3
    subst e1 e2 e3;obtain⟨hn',vc,pr,h2,h3,h4,h5,h6⟩:=zj hT hi h1;refine⟨hn',vc,pr,?_,h3,h4,Au (fun g as hb=>by rw[hk]at hb;subst hb;cases h1) (h6 rfl).1 (h6 rfl).2⟩;unfold ff cI;rw[hk]at c1 c2;cases k<;>first
     |(simp only[hg,hk,c1,c2,h2,h5,cond_true,List.nil_append];done)
     |exact absurd rfl (hn _ _ _)
   cases h
  cases hk:o.k with
  |pick c a b =>
   rw[hk]at h;simp only at h;split at h
   ·rename_i v he;injection h with h;injection h with e1 h;injection h with e2 e3
    subst e1 e2 e3;exact⟨{},[],[],by simp only[ff,cI,hg,hk,he],trivial,trivial,rfl⟩
   cases h
  |_=>rw[←hk];exact gen hk (fun _ _ _=>by simp) (by rw[hk]at h ⊢;exact h)
theorem rD (hT:gf C T) (hi:zi C ih):∀(al:List bx) (i:Nat) (vc:VC) (pr:List Prop) (fs:List dt) (f:AF) (μ:AM) {fs':List dt} {f':AF} {μ':AM},oi T ih al fs f μ=some (fs',f',μ')→aI vc→aP pr →
  ∃hs vc' pr',cA (ah C) (aA C) al hs i vc pr fs f μ=some (vc',pr',fs',f',μ')∧aI vc'∧aP pr'
 |[],i,vc,pr,fs,f,μ,fs',f',μ',h,hv,hp=>by
  simp only[oi]at h;injection h with h;injection h with e1 h;injection h with e2 e3
  subst e1 e2 e3;exact⟨[],vc,pr,rfl,hv,hp⟩
 |o::os,i,vc,pr,fs,f,μ,fs',f',μ',h,hv,hp=>by
  simp only[oi]at h;split at h
  ·rename_i x f1 μ1 h1;obtain⟨hn,vc1,pr1,g1,g2,g3,g4⟩:=Av hT hi h1;obtain⟨hs,vc',pr',q1,q2,q3⟩:=rD hT hi os (i+1) (vc1++vc) (pr1++pr) (fs++[x]) f1 μ1 h (yd g2 hv) (ye g3 hp);refine⟨(i,hn)::hs,vc',pr',?_,q2,q3⟩;simp only[cA,bZ,g1,g4];rw[←q1];exact iu os (i+1) _ _ _ _ _ fun j hj=>dA (by omega)
  cases h
theorem Cf:∀{g f:AF},(∀t v,(t,v)∈g→get f t=v)→Sub g f
 |[],_,_=>trivial
 |(t,v)::r,f,h=>⟨h t v List.mem_cons_self,Cf fun t v hm=>h t v (List.mem_cons_of_mem _ hm)⟩
theorem H2 (m s t:Nat):Nat.beq (Nat.land (Nat.shiftRight (Nat.lor m (Nat.shiftLeft 1 s)) t) 1) 1=(Nat.beq (Nat.land (Nat.shiftRight m t) 1) 1||Nat.beq s t):=by
 have key:∀x:Nat,Nat.beq (Nat.land (Nat.shiftRight x t) 1) 1=x.testBit t:=fun x=>by
  show Nat.beq ((x >>> t) &&& 1) 1=_;rw[Nat.testBit,Nat.and_comm];have h2:1 &&& (x >>> t)=(x >>> t) % 2:=by rw[Nat.and_comm,Nat.and_one_is_mod]
  rw[h2];rcases Nat.mod_two_eq_zero_or_one (x >>> t) with h|h<;>rw[h]<;>rfl
 rw[key,key];show(m ||| 1 <<< s).testBit t=_;rw[Nat.testBit_or,Nat.testBit_shiftLeft];congr 1;by_cases h:s=t
 ·subst h;simp
 have hb:Nat.beq s t=false:=by
  cases hb:Nat.beq s t with
  |false=>rfl
  |true=>exact absurd (Nat.eq_of_beq_eq_true hb) h
 rw[hb];by_cases hle:t≥s
 ·obtain⟨d,hd⟩:∃d,t-s=d+1:=⟨t-s-1,by omega⟩
  rw[hd,Nat.testBit_succ];simp
 simp[hle]
theorem lY:∀(f:AF) (m:Nat) {t:Nat} {v:AV},(t,v)∈my f m→Nat.beq (Nat.land (Nat.shiftRight m t) 1) 1=false∧get f t=v
 |(s,u)::r,m,t,v,h=>by
  simp only[my]at h;cases hb:Nat.beq (Nat.land (Nat.shiftRight m s) 1) 1 with
  |true =>
   rw[hb,cond_true]at h;obtain⟨h1,h2⟩:=lY r m h;refine⟨h1,?_⟩;have hne:Nat.beq s t=false:=by
    cases he:Nat.beq s t with
    |false=>rfl
    |true=>rw[Nat.eq_of_beq_eq_true he,h1]at hb;cases hb
   simp only[get,hne];exact h2
  |false =>
   rw[hb,cond_false]at h;rcases List.mem_cons.mp h with h|h
   ·injection h with h1 h2
    subst h1 h2;exact⟨hb,by simp only[get,Nat.beq_refl];rfl⟩
   obtain⟨h1,h2⟩:=lY r _ h;rw[H2,Bool.or_eq_false_iff]at h1;refine⟨h1.1,?_⟩;simp only[get,h1.2];exact h2
theorem wD (f:AF):Sub (my f 0) f:=Cf fun t v hm=>(lY f 0 hm).2
theorem Ax (hT:gf C T) {t:sQ} {f f2:AF} (h:yb T t f=some f2):zc C t f f2:=by
 have look:∀{f2},(match ev f t.x with
  | .pv (.int _ i)=>match fZ T.tab t.g with
   |some l=>bif decide (0≤i)&&decide (i+1≤t.len) then match l i.toNat with
    |some p=>some (put (put f (some t.d1) .any) (some t.d2) (.pv p))
    |none=>none
    else none
   |none=>none
  |_=>none)=some f2→∃k i p,ev f t.x= .pv (.int k i)∧0≤i∧i+1≤t.len∧zb C t.g i.toNat p∧f2=put (put f (some t.d1) .any) (some t.d2) (.pv p):=by
  intro f2 h;split at h
  ·rename_i k i hx;split at h
   ·rename_i l hl;cases hb:decide (0≤i)&&decide (i+1≤(t.len:Int)) with
    |false=>rw[hb,cond_false]at h;cases h
    |true =>
     rw[hb,cond_true]at h;simp only[Bool.and_eq_true,decide_eq_true_eq]at hb;split at h
     ·rename_i p hp;injection h with h
      exact⟨k,i,p,hx,hb.1,hb.2,hT.tab _ _ hl _ _ hp,h.symm⟩
     cases h
   cases h
  cases h
 unfold yb at h;simp only at h;split at h
 ·rename_i hg;exact .inl ⟨.inl hg,look h⟩
 rename_i s b hg;split at h
 ·rename_i c hc;by_cases hcb:c=b
  ·subst hcb;rw[beq_self_eq_true,cond_true]at h;exact .inl ⟨.inr ⟨s,c,hg,hc⟩,look h⟩
  rw[beq_false_of_ne hcb,cond_false]at h;injection h with h
  refine .inr ⟨s,b,hg,?_,h.symm⟩;rw[hc];cases c<;>cases b<;>simp at hcb ⊢
 cases h
theorem fR (hT:gf C T):∀k,zi C (run T k):=by
 intro k;induction k using Nat.strongRecOn with
 |_ k ihk =>
 intro x f μ e fE μE h own n m;cases k with
 |zero=>cases h
 |succ k =>
  have hi:zi C (run T k):=ihk k (Nat.lt_succ_self k);rw[wz]at h;cases x with
  |skip =>
   simp only[jG]at h;injection h with h;injection h with e1 h;injection h with e2 e3
   subst e1 e2 e3;exact uq ⟨rfl,rfl,rfl⟩
  |region dr al =>
   simp only[jG]at h;split at h
   ·rename_i f1 μ1 h1;injection h with h;injection h with e1 h;injection h with e2 e3
    subst e1 e2 e3;obtain⟨hs,vc,pr,q1,q2,q3⟩:=jV hT hi al 0 [] [] f μ h1 trivial trivial;exact qX hs q1 q2 q3 ⟨rfl,rfl,rfl⟩
   rw[cond_eq_ite]at h;split at h
   ·rename_i hb;rw[Bool.and_eq_true]at hb;obtain⟨rfl,hb⟩:=hb;unfold FY FZ at h;split at h
    ·rename_i f1 μ1 h1;injection h with h;injection h with e1 h;injection h with e2 e3
     subst e1 e2 e3;split at h1
     ·rename_i f2 μ2 h2;split at h1
      ·rename_i o ho;obtain⟨l,rfl⟩:=List.getLast?_eq_some_iff.mp ho;rw[List.dropLast_concat]at h2;obtain⟨hs,vc,pr,q1,q2,q3⟩:=jV hT hi l 0 [] [] f μ h2 trivial trivial;obtain⟨hn,vc1,pr1,g1,g2,g3⟩:=wC hT hi h1;exact rl hb q1 q2 q3 g1 g2 g3 ⟨rfl,rfl,rfl⟩
      cases h1
     cases h1
    cases h
   cases h
  |regionF al free =>
   simp only[jG]at h;split at h
   ·rename_i fs f1 μ1 h1;cases hf:eK fs free with
    |false=>rw[hf,cond_false]at h;cases h
    |true =>
     rw[hf,cond_true]at h;injection h with h;injection h with e1 h;injection h with e2 e3
     subst e1 e2 e3;obtain⟨hs,vc,pr,q1,q2,q3⟩:=rD hT hi al 0 [] [] [] f μ h1 trivial trivial;exact vT hs q1 q2 q3 hf ⟨rfl,rfl,rfl⟩
   cases h
  |seq a b =>
   simp only[jG]at h;refine cK ?_;split at h
   ·rename_i f1 μ1 h1;refine dE (hi _ _ _ _ _ _ h1 own n m) fun e2 f2 μ2 hh=>?_
    obtain⟨rfl,rfl,rfl⟩:=hh;exact hi _ _ _ _ _ _ h own n m
   rename_i hne;refine dE (hi _ _ _ _ _ _ h own n m) fun e2 f2 μ2 hh=>?_
   obtain⟨rfl,rfl,rfl⟩:=hh;cases e with
   |normal=>exact absurd h (hne _ _)
   |exit i=>exact⟨rfl,rfl,rfl⟩
   |ret=>exact⟨rfl,rfl,rfl⟩
  |cond o x y =>
   simp only[jG]at h;split at h
   ·rename_i ho;exact ur (t:=true) ho (hi _ _ _ _ _ _ h own n m)
   ·rename_i ho;exact ur (t:=false) ho (hi _ _ _ _ _ _ h own n m)
   cases h
  |block id x =>
   simp only[jG]at h;refine qY ?_;split at h
   ·rename_i i f1 μ1 h1;refine dE (hi _ _ _ _ _ _ h1 own n m) fun e2 f2 μ2 hh=>?_
    obtain⟨rfl,rfl,rfl⟩:=hh;simp only[RX.ex,ec];cases hb:Nat.beq i id with
    |true =>
     rw[hb,cond_true]at h;injection h with h;injection h with e1 h;injection h with e2 e3
     subst e1 e2 e3;exact⟨rfl,rfl,rfl⟩
    |false =>
     rw[hb,cond_false]at h;injection h with h;injection h with e1 h;injection h with e2 e3
     subst e1 e2 e3;exact⟨rfl,rfl,rfl⟩
   rename_i hne;refine dE (hi _ _ _ _ _ _ h own n m) fun e2 f2 μ2 hh=>?_
   obtain⟨rfl,rfl,rfl⟩:=hh;cases e with
   |normal=>exact⟨rfl,rfl,rfl⟩
   |exit i=>exact absurd h (hne _ _ _)
   |ret=>exact⟨rfl,rfl,rfl⟩
  |loop x =>
   have h:run T (k+1) (.loop x) f μ=some (e,fE,μE):=h;refine pX (fun j f1 μ1=>j≤k+1∧∃g,(g=f1∨Sub g f1)∧run T j (.loop x) g μ1=some (e,fE,μE)) ?_ (k+1) ⟨Nat.le_refl _,f,.inl rfl,h⟩;rintro j f1 μ1 ⟨hj,g,hs,hr⟩;have main:Aw C own n m x (eb (fun f' μ'=>∃i,i<j∧(i≤k+1∧∃g,(g=f'∨Sub g f')∧run T i (.loop x) g μ'=some (e,fE,μE))) (F0 e.ex fE μE)) g μ1:=by
    cases j with
    |zero=>cases hr
    |succ j =>
     have hij:zi C (run T j):=ihk j (by omega);rw[wz]at hr;simp only[jG]at hr;split at hr
     ·rename_i f2 μ2 h2;refine dE (hij _ _ _ _ _ _ h2 own n m) fun e2 f3 μ3 hh=>?_
      obtain⟨rfl,rfl,rfl⟩:=hh;exact⟨j,Nat.lt_succ_self j,by omega,_,.inr (wD f3),hr⟩
     rename_i hne;refine dE (hij _ _ _ _ _ _ hr own n m) fun e2 f3 μ3 hh=>?_
     obtain⟨rfl,rfl,rfl⟩:=hh;cases e with
     |normal=>exact absurd hr (hne _ _)
     |exit i=>exact⟨rfl,rfl,rfl⟩
     |ret=>exact⟨rfl,rfl,rfl⟩
   rcases hs with rfl|hs
   ·exact main
   exact dy g hs main
  |exit id =>
   simp only[jG]at h;injection h with h;injection h with e1 h;injection h with e2 e3
   subst e1 e2 e3;exact uu ⟨rfl,rfl,rfl⟩
  |ret =>
   simp only[jG]at h;injection h with h;injection h with e1 h;injection h with e2 e3
   subst e1 e2 e3;exact xP ⟨rfl,rfl,rfl⟩
  |range g ps a b=>cases h
  |stuck=>simp only[jG]at h;cases h
  |raw c=>simp only[jG]at h;cases h
  |tab p t s =>
   simp only[jG]at h;split at h
   ·rename_i f1 μ1 h1;split at h
    ·rename_i f2 h2;split at h
     ·rename_i f3 μ3 h3;injection h with h;injection h with e1 h;injection h with e2 e3
      subst e1 e2 e3;obtain⟨hs,vc,pr,q1,q2,q3⟩:=jV hT hi p 0 [] [] f μ h1 trivial trivial;obtain⟨hs2,vc2,pr2,g1,g2,g3⟩:=jV hT hi s 0 [] [] f2 μ1 h3 trivial trivial;exact HY hs hs2 q1 q2 q3 (Ax hT h2) g1 g2 g3 ⟨rfl,rfl,rfl⟩
     cases h
    cases h
   cases h
end
end
section
structure Ay (σ:Type) where
 P:Program
 mixed:P.follows .mixedOrders=true
 D:List Deferred
 E:σ→World→Prop
 hE:∀k (w w':World),E k w→Below w.heap.size w w'→E k w'
 Fo:Nat→Prop
def Ay.C {σ:Type} (F:Ay σ) (k:σ):Ctx:=⟨F.P,F.E k,F.hE k,F.mixed,F.D⟩
structure uF (Fo:Nat→Prop) (w w':World):Prop where
 os:w'.os=w.os
 tape:w'.tape=w.tape
 output:w'.output=w.output
 size:w'.heap.size=w.heap.size
 block:∀g,¬Fo g→w'.heap[g]?=w.heap[g]?
theorem uF.refl (Fo:Nat→Prop) (w:World):uF Fo w w:=⟨rfl,rfl,rfl,rfl,fun _ _=>rfl⟩
theorem uF.trans {Fo:Nat→Prop} {a b c:World} (h:uF Fo a b) (k:uF Fo b c):uF Fo a c :=
 ⟨k.os.trans h.os,k.tape.trans h.tape,k.output.trans h.output,k.size.trans h.size,fun g hg=>(k.block g hg).trans (h.block g hg)⟩
def NS (Fo:Nat→Prop) (w0:World) (S:Nat→Prop):Prop:=∀g,Fo g→g<w0.heap.size∧¬S g
section
variable {σ:Type} {F:Ay σ} {own:Nat→Bool} {n m:Nat} {R:σ→Exit→AF→AM→Prop} {k:σ} {f:AF} {μ:AM}
def rE (F:Ay σ) (n m:Nat) (w0 w:World) (S:Nat→Prop) (γ:Gh) (R:σ→Exit→AF→AM→Prop):Exit→Act→World→Prop :=
 fun x a' w'=>∃k' w0' S' γ' f' μ',uF F.Fo w0 w0'∧ib m w S γ w' S' γ'∧Wd (F.C k') w0' S' γ' μ' w'∧FR F.D n w' S' γ' f' a'∧NS F.Fo w0' S'∧R k' x f' μ'
def OY (F:Ay σ) (n m:Nat) (c:Code) (R:σ→Exit→AF→AM→Prop) (k:σ) (f:AF) (μ:AM):Prop :=
 ∀(w0:World) (S:Nat→Prop) (γ:Gh) (w:World) (a:Act),Wd (F.C k) w0 S γ μ w→FR F.D n w S γ f a→NS F.Fo w0 S→c.wp F.P (rE F n m w0 w S γ R) a w
def zk (F:Ay σ) (own:Nat→Bool) (n m:Nat) (x:af) (R:σ→Exit→AF→AM→Prop) (k:σ) (f:AF) (μ:AM):Prop :=
 ∀c,comp F.P own n c=some x→OY F n m c R k f μ
def fe (K:σ→AF→AM→Prop) (R:σ→Exit→AF→AM→Prop):σ→Exit→AF→AM→Prop
 |k,.normal,f,μ=>K k f μ
 |k,e,f,μ=>R k e f μ
def ed (id:Nat) (R:σ→Exit→AF→AM→Prop):σ→Exit→AF→AM→Prop
 |k,.exit i,f,μ=>bif Nat.beq i id then R k .normal f μ else R k (.exit i) f μ
 |k,e,f,μ=>R k e f μ
theorem rE.ext {w0 w0' w w1:World} {S S1:Nat→Prop} {γ γ1:Gh} {x:Exit} {a':Act} {w':World} (ho:uF F.Fo w0 w0') (hE:ib m w S γ w1 S1 γ1) (h:rE F n m w0' w1 S1 γ1 R x a' w'):rE F n m w0 w S γ R x a' w':=by
 obtain⟨k',w2,S',γ',f',μ',h1,h2,h3,h4,h5,h6⟩:=h;exact⟨k',w2,S',γ',f',μ',ho.trans h1,hE.trans h2,h3,h4,h5,h6⟩
theorem NS.au {C:Ctx} {Fo:Nat→Prop} {w0 w w':World} {S S':Nat→Prop} {γ γ':Gh} {μ:AM} (hn:NS Fo w0 S) (hW:Wd C w0 S γ μ w) (hE:ib m w S γ w' S' γ'):NS Fo w0 S':=fun g hg=>by
 obtain⟨h1,h2⟩:=hn g hg;refine⟨h1,fun hs=>?_⟩;rcases hE.more g hs with h|⟨b,e,hb,he⟩|h
 ·exact h2 h
 ·have hbl:b<μ.length:=by
   apply Classical.byContradiction;intro hnb;rw[hW.mem.none b (by omega)]at hb;cases hb
  obtain⟨e0,q1,-,-,-,q5,-⟩:=hW.mem.Aa (List.getElem?_eq_getElem hbl);rw[q1]at hb;injection hb with hb
  subst hb;omega
 have:=hW.below.size;omega
theorem dB {x:af} (h:Aw (F.C k) own n m x (R k) f μ):zk F own n m x R k f μ:=by
 intro c hc w0 S γ w a hW hF hN;refine wp_mono (h c hc w0 S γ w a hW hF) fun e a' w' hh=>?_
 obtain⟨S',γ',f',μ',h1,h2,h3,h4⟩:=hh;exact⟨k,w0,S',γ',f',μ',uF.refl _ _,h1.z,h2,h3,hN.au hW h1.z,h4⟩
theorem kT {P:Program} {c:Code} {x y:af} (hc:comp P own n c=some (.seq x y)):∃a b,c= .seq a b∧comp P own n a=some x∧comp P own n b=some y:=by
 cases c<;>simp only[comp]at hc;case seq a b =>
  split at hc
  ·rename_i x' y' h1 h2;injection hc with hc;injection hc with e1 e2
   subst e1 e2;exact⟨a,b,rfl,h1,h2⟩
  cases hc
 all_goals repeat' split at hc
 all_goals first
  |(cases hc;done)
  |(injection hc with hc;cases hc;done)
  |(rcases ck hc with hc|hc|hc<;>cases hc)
theorem ez {x y:af} (h:zk F own n m x (fe (fun k f μ=>zk F own n m y R k f μ) R) k f μ):zk F own n m (.seq x y) R k f μ:=by
 intro c hc w0 S γ w a hW hF hN;obtain⟨c1,c2,rfl,h1,h2⟩:=kT hc;refine wp_seq (wp_mono (h c1 h1 w0 S γ w a hW hF hN) fun e a' w' hE=>?_);obtain⟨k',w2,S',γ',f',μ',g0,g1,g2,g3,g4,g5⟩:=hE;cases e with
 |normal=>exact wp_mono (g5 c2 h2 w2 S' γ' w' a' g2 g3 g4) fun e a'' w'' hh=>hh.ext g0 g1
 |_=>exact⟨k',w2,S',γ',f',μ',g0,g1,g2,g3,g4,g5⟩
theorem wE {o:cn} {x y:af} {t:Bool} (ho:ev f o= .pv (.bool t)) (h:zk F own n m (bif t then x else y) R k f μ):zk F own n m (.cond o x y) R k f μ:=by
 intro c hc w0 S γ w a hW hF hN;have hcs:∃q a b,c= .cond q a b∧aB q=some o∧comp F.P own n a=some x∧comp F.P own n b=some y:=by
  cases c<;>simp only[comp]at hc;case cond q a b =>
   split at hc
   ·rename_i o' x' y' h0 h1 h2;injection hc with hc;injection hc with e0 e1 e2
    subst e0 e1 e2;exact⟨q,a,b,rfl,h0,h1,h2⟩
   cases hc
  all_goals repeat' split at hc
  all_goals first
   |(cases hc;done)
   |(injection hc with hc;cases hc;done)
   |(rcases ck hc with hc|hc|hc<;>cases hc)
 obtain⟨q,c1,c2,rfl,h0,h1,h2⟩:=hcs;have hv:=aO (w:=w) (S:=S) (γ:=γ) (f:=f) (a:=a) h0 fun t _=>hF.val t
 rw[ho]at hv;have hv:=cd hv;refine wp_cond hv ?_;cases t with
 |true=>exact h c1 h1 w0 S γ w a hW hF hN
 |false=>exact h c2 h2 w0 S γ w a hW hF hN
theorem tI {id:Nat} {x:af} (h:zk F own n m x (ed id R) k f μ):zk F own n m (.block id x) R k f μ:=by
 intro c hc w0 S γ w a hW hF hN;have hcs:∃a,c= .block id a∧comp F.P own n a=some x:=by
  cases c<;>simp only[comp]at hc;case block i a =>
   split at hc
   ·rename_i x' h1;injection hc with hc;injection hc with e0 e1
    subst e0 e1;exact⟨a,rfl,h1⟩
   cases hc
  all_goals repeat' split at hc
  all_goals first
   |(cases hc;done)
   |(injection hc with hc;cases hc;done)
   |(rcases ck hc with hc|hc|hc<;>cases hc)
 obtain⟨c1,rfl,h1⟩:=hcs;refine wp_block (wp_mono (h c1 h1 w0 S γ w a hW hF hN) fun e a' w' hE=>?_);obtain⟨k',w2,S',γ',f',μ',g0,g1,g2,g3,g4,g5⟩:=hE;cases e with
 |exit i =>
  simp only[ed]at g5;simp only[Exit.inBlock];by_cases hi:i=id
  ·subst hi;rw[if_pos rfl];rw[Nat.beq_refl,cond_true]at g5;exact⟨k',w2,S',γ',f',μ',g0,g1,g2,g3,g4,g5⟩
  rw[if_neg hi];rw[tw hi,cond_false]at g5;exact⟨k',w2,S',γ',f',μ',g0,g1,g2,g3,g4,g5⟩
 |_=>exact⟨k',w2,S',γ',f',μ',g0,g1,g2,g3,g4,g5⟩
theorem Cg {x:af} (I:Nat→σ→AF→AM→Prop) (hstep:∀j k f μ,I j k f μ→zk F own n m x (fe (fun k' f' μ'=>∃i,i<j∧I i k' f' μ') R) k f μ) (j:Nat) (h:I j k f μ):zk F own n m (.loop x) R k f μ:=by
 intro c hc w0 S γ w a hW hF hN;have hcs:∃a,c= .loop a∧comp F.P own n a=some x:=by
  cases c<;>simp only[comp]at hc;case loop a =>
   split at hc
   ·rename_i x' h1;injection hc with hc;injection hc with e1
    subst e1;exact⟨a,rfl,h1⟩
   cases hc
  all_goals repeat' split at hc
  all_goals first
   |(cases hc;done)
   |(injection hc with hc;cases hc;done)
   |(rcases ck hc with hc|hc|hc<;>cases hc)
 obtain⟨c1,rfl,h1⟩:=hcs;have key:∀(j:Nat) (k1:σ) (f1:AF) (μ1:AM) (w2:World) (S1:Nat→Prop) (γ1:Gh) (w1:World) (a1:Act),I j k1 f1 μ1→uF F.Fo w0 w2→ib m w S γ w1 S1 γ1→Wd (F.C k1) w2 S1 γ1 μ1 w1→FR F.D n w1 S1 γ1 f1 a1→NS F.Fo w2 S1→Code.rounds F.P c1 (rE F n m w0 w S γ R) (j+1) a1 w1:=by
  intro j;induction j using Nat.strongRecOn with
  |_ j ih =>
   intro k1 f1 μ1 w2 S1 γ1 w1 a1 hI hO hE hW1 hF1 hN1;rw[rounds_succ];refine wp_mono (hstep j k1 f1 μ1 hI c1 h1 w2 S1 γ1 w1 a1 hW1 hF1 hN1) fun e a' w' hh=>?_
   obtain⟨k',w3,S',γ',f',μ',g0,g1,g2,g3,g4,g5⟩:=hh;cases e with
   |normal =>
    obtain⟨i,hi,hIi⟩:=g5;exact lR (by omega) (ih i hi k' f' μ' w3 S' γ' w' a' hIi (hO.trans g0) (hE.trans g1) g2 g3 g4)
   |_=>exact⟨k',w3,S',γ',f',μ',hO.trans g0,hE.trans g1,g2,g3,g4,g5⟩
 exact wp_loop_rounds (j+1) (key j k f μ w0 S γ w a h (uF.refl _ _) (ib.refl _ _ _ _) hW hF hN)
theorem Az (g:AF) {x:af} (hs:Sub g f) (h:zk F own n m x R k g μ):zk F own n m x R k f μ:=by
 intro c hc w0 S γ w a hW hF hN;refine h c hc w0 S γ w a hW ⟨hF.size,hF.defers,fun t=>?_⟩ hN;rcases pY hs t with h|h
 ·rw[h];exact .any _
 rw[h];exact hF.val t
end
end
section
theorem tJ {P:Program} {row:String} {args:Array Value} {w:World} {R:Value→World→Prop} (h:Rows P row args w R):RowsIn Fence.wide 0 P row args w R:=fun c cs _=>by
 obtain⟨v,w',h1,h2⟩:=h c cs;exact⟨v,w',h1,StepsIn.mono (fun m _=>fenced_wide P m) (StepsIn.of_steps h2)⟩
theorem rF {P:Program} {o:Oper} {a:Act} {w:World} {K:Act→World→Prop} {Q:Exit→Act→World→Prop} (h:o.wp P a w K Q):o.wpIn Fence.wide 1 P a w K Q:=by
 unfold Oper.wpIn;refine⟨fun _ _=>trivial,?_⟩;show o.uponIn Fence.wide 1 P a K Q ((execOp a.eval o).run P w);unfold Oper.wp at h;generalize (execOp a.eval o).run P w=r at *;cases r with
 |ok x w' =>
  cases x with
  |enter g args=>exact⟨(fun h=>by cases h),callsIn_wide.mpr h⟩
  |row row args=>exact⟨(fun h=>by cases h),tJ h⟩
  |_=>simp only[Oper.upon,Oper.uponIn]at h ⊢<;>first|exact h|exact h.elim
 |halt x w'=>cases x<;>simp only[Oper.upon,Oper.uponIn]at h ⊢<;>first|exact h|exact h.elim
theorem tK {P:Program} {ops:Array Oper} {o:Oper} {i:Nat} {a:Act} {w:World} {K:Act→World→Prop} {Q:Exit→Act→World→Prop} (ho:ops[i]?=some o) (h:ly P ops o a w K Q):wpOpIn Fence.wide 1 P ops Q i K a w:=by
 unfold wpOpIn;rw[ho];simp only;unfold ly at h;split
 ·rename_i hw;rw[if_pos hw]at h;exact rF h
 rename_i hw;rw[if_neg hw]at h;exact⟨fun _ _=>trivial,h⟩
def KJ {σ:Type} (F:Ay σ) (g:FuncId) (as:List AV) (k:σ) (μ:AM) (r:AV) (k':σ) (μ':AM):Prop :=
 eU F.P g=true∧∀(w0:World) (S:Nat→Prop) (γ:Gh) (w:World) (vs:List Value),Wd (F.C k) w0 S γ μ w→PW (VR w S γ) as vs→NS F.Fo w0 S →
  Calls F.P g vs.toArray w fun e w'=>∃v w0' S' γ',e= .returned v∧uF F.Fo w0 w0'∧ig w S γ w' S' γ'∧Wd (F.C k') w0' S' γ' μ' w'∧NS F.Fo w0' S'∧VR w' S' γ' r v
def Ch {σ:Type} (F:Ay σ) (l:Nat) (as:List AV) (k:σ) (μ:AM) (r:AV) (k':σ) (μ':AM):Prop :=
 ∀(w0:World) (S:Nat→Prop) (γ:Gh) (w:World) (vs:List Value),Wd (F.C k) w0 S γ μ w→PW (VR w S γ) as vs→NS F.Fo w0 S →
  YieldAt Fence.wide 0 F.P l vs.toArray w fun e w'=>∃v w0' S' γ',e= .returned v∧uF F.Fo w0 w0'∧ig w S γ w' S' γ'∧Wd (F.C k') w0' S' γ' μ' w'∧NS F.Fo w0' S'∧VR w' S' γ' r v
section
variable {σ:Type} {F:Ay σ} {own:Nat→Bool} {n m:Nat} {R:σ→Exit→AF→AM→Prop} {k k2:σ} {f:AF} {μ:AM} {ops:Array Oper}
def Ci (F:Ay σ) (own:Nat→Bool) (n:Nat) (ops:Array Oper) (op:bx) (k:σ) (f:AF) (μ:AM) (v:AV) (k':σ) (μ':AM):Prop :=
 ∀(o:Oper) (w0:World) (S:Nat→Prop) (γ:Gh) (w:World) (a:Act) (K':Act→World→Prop) (Q:Exit→Act→World→Prop),eu F.P own n ops o=some op→Wd (F.C k) w0 S γ μ w→FR F.D n w S γ f a→NS F.Fo w0 S →
  (∀u w0' w' S' γ',uF F.Fo w0 w0'→ig w S γ w' S' γ'→Wd (F.C k') w0' S' γ' μ' w'→NS F.Fo w0' S'→VR w' S' γ' v u→K' (a.put o.dst u) w')→o.wpIn Fence.wide 1 F.P a w K' Q
theorem Cj {id j:Nat} {al:List bx} {cm cm2:Bool} {hs hs2:List (Nat×Hint)} {vc vc2:VC} {pr pr2:List Prop} {f1 f2:AF} {μ1 μ2 μ3:AM} {op:bx} {v:AV} (hc:dM F.P own n ops ops.toList=some al)
  (hk:al[j]?=some op) (hg:op.guard=none) (he:cV (ah (F.C k)) (aA (F.C k)) cm false (al.take j) hs 0 [] [] f μ=some (vc,pr,f1,μ1)) (hvc:aI vc) (hpr:aP pr)
  (hop:Ci F own n ops op k f1 μ1 v k2 μ2)
  (he2:cV (ah (F.C k2)) (aA (F.C k2)) cm2 false (al.drop (j+1)) hs2 0 [] [] (put f1 op.dst v) μ2=some (vc2,pr2,f2,μ3)) (hvc2:aI vc2) (hpr2:aP pr2)
  (hR:R k2 .normal f2 μ3):OY F n m (.region id ops false) R k f μ:=by
 intro w0 S γ w a hW hF hN;rw[←wpIn_wide (n:=1)];refine wpIn_region ?_;obtain⟨-,F1,M1,V1,h1,h2,h3,h4,h5⟩:=da (al.take j) 0 [] [] f μ vc pr f1 μ1 he hvc hpr;obtain⟨-,F2,M2,V2,q1,q2,q3,q4,q5⟩:=da (al.drop (j+1)) 0 [] [] (put f1 op.dst v) μ2 vc2 pr2 f2 μ3 he2 hvc2 hpr2;obtain⟨hl,hat⟩:=dQ hc;replace hl:al.length=ops.size:=hl.trans (Array.length_toList);have hjl:j<al.length:=(List.getElem?_eq_some_iff.mp hk).1;have hlt:(al.take j).length=j:=by rw[List.length_take];omega
 have hld:(al.drop (j+1)).length=ops.size-(j+1):=by rw[List.length_drop,hl]
 rw[Nat.zero_add,hlt]at h3 h4;rw[Nat.zero_add,hld]at q3 q4;have suf:∀(l i:Nat),i+l=ops.size-(j+1)→∀(w2:World) (S1:Nat→Prop) (γ1:Gh) (w1:World) (a1:Act),uF F.Fo w0 w2→ib m w S γ w1 S1 γ1→Wd (F.C k2) w2 S1 γ1 (M2 i) w1→FR F.D n w1 S1 γ1 (F2 i) a1→NS F.Fo w2 S1 →
   wpOpsIn Fence.wide 1 F.P ops (rE F n m w0 w S γ R) (List.range' (j+1+i) l) a1 w1:=by
  intro l;induction l with
  |zero =>
   intro i hi w2 S1 γ1 w1 a1 hO hE hW1 hF1 hN1;simp only[List.range'_zero,wpOpsIn];obtain rfl:i=ops.size-(j+1):=by omega
   rw[q4]at hW1;rw[q3]at hF1;exact⟨k2,w2,S1,γ1,f2,μ3,hO,hE,hW1,hF1,hN1,hR⟩
  |succ l ih =>
   intro i hi w2 S1 γ1 w1 a1 hO hE hW1 hF1 hN1;rw[List.range'_succ,wpOpsIn_cons];have his:j+1+i<ops.size:=by omega
   have ho:ops[j+1+i]?=some ops[j+1+i]:=by simp[his]
   obtain⟨ao,hao,hco⟩:=hat (j+1+i) ops[j+1+i] (by rw[Array.getElem?_toList];exact ho);obtain⟨vcj,prj,k1,k2',k3,k4⟩:=q5 i ao (by rw[List.getElem?_drop];exact hao);rw[Nat.zero_add]at k1 k4;obtain⟨-,-,hdst,hlt',-⟩:=cJ (C:=F.C k) hco;refine tK ho (bL (C:=F.C k2) hW1 hco k1 k2' k3 (fun t _=>hF1.val t) fun u w3 S2 γ2 hE2 hW2 hv=>?_);have:=ih (i+1) (by omega) w2 S2 γ2 w3 (a1.put (ops[j+1+i]).dst u) hO (hE.trans (hE2.z.ue m)) hW2 (by
    rw[k4,hdst];exact(hF1.ext hE2).put hv hlt') (hN1.au hW1 (hE2.z.ue 0))
   rw[show j+1+(i+1)=j+1+i+1 by omega]at this;exact this
 have pre:∀(l i:Nat),i+l=j→∀(S1:Nat→Prop) (γ1:Gh) (w1:World) (a1:Act),ib m w S γ w1 S1 γ1→Wd (F.C k) w0 S1 γ1 (M1 i) w1→FR F.D n w1 S1 γ1 (F1 i) a1→NS F.Fo w0 S1 →
   wpOpsIn Fence.wide 1 F.P ops (rE F n m w0 w S γ R) (List.range' i (ops.size-i)) a1 w1:=by
  intro l;induction l with
  |zero =>
   intro i hi S1 γ1 w1 a1 hE hW1 hF1 hN1;obtain rfl:i=j:=by omega
   rw[show ops.size-i=(ops.size-(i+1))+1 by omega,List.range'_succ,wpOpsIn_cons];have ho:ops[i]?=some ops[i]:=by simp[←hl,hjl]
   obtain⟨ao,hao,hco⟩:=hat i ops[i] (by rw[Array.getElem?_toList];exact ho);rw[hk]at hao;injection hao with hao
   subst hao;obtain⟨ow,hkk,hdst,hlt',-⟩:=cJ (C:=F.C k) hco;have hgo:(ops[i]).guard=none:=by
    cases hgu:(ops[i]).guard with
    |none=>rfl
    |some gb =>
     obtain⟨g0,b0⟩:=gb;obtain⟨t0,-,h0⟩:=ob hco hgu;rw[hg]at h0;cases h0
   unfold wpOpIn;rw[ho];simp only;rw[if_pos (by unfold Region.wanted;rw[hgo])];rw[h4]at hW1;rw[h3]at hF1;refine hop _ w0 S1 γ1 w1 a1 _ _ hco hW1 hF1 hN1 fun u w0' w' S' γ' hO hE2 hW2 hN2 hv=>?_
   have:=suf (ops.size-(i+1)) 0 (by omega) w0' S' γ' w' (a1.put (ops[i]).dst u) hO (hE.trans (hE2.ue m)) (by rw[q2];exact hW2) (by
    rw[q1,hdst];exact(hF1.sT hE2).put hv hlt') hN2
   exact this
  |succ l ih =>
   intro i hi S1 γ1 w1 a1 hE hW1 hF1 hN1;have his:i<ops.size:=by omega
   rw[show ops.size-i=(ops.size-(i+1))+1 by omega,List.range'_succ,wpOpsIn_cons];have ho:ops[i]?=some ops[i]:=by simp[his]
   obtain⟨ao,hao,hco⟩:=hat i ops[i] (by rw[Array.getElem?_toList];exact ho);obtain⟨vcj,prj,k1,k2',k3,k4⟩:=h5 i ao (by rw[List.getElem?_take,if_pos (by omega)];exact hao);rw[Nat.zero_add]at k1 k4;obtain⟨-,-,hdst,hlt',-⟩:=cJ (C:=F.C k) hco;refine tK ho (bL (C:=F.C k) hW1 hco k1 k2' k3 (fun t _=>hF1.val t) fun u w2 S2 γ2 hE2 hW2 hv=>?_);refine ih (i+1) (by omega) S2 γ2 w2 _ (hE.trans (hE2.z.ue m)) hW2 ?_ (hN1.au hW1 (hE2.z.ue 0));rw[k4,hdst];exact(hF1.ext hE2).put hv hlt'
 rw[List.range_eq_range'];exact pre j 0 (by omega) S γ w a (ib.refl _ _ _ _) (by rw[h2];exact hW) (by rw[h1];exact hF) hN
theorem Ck {op:bx} {g:FuncId} {as:List AV} {f1:AF} {μ1 μ2:AM} {v:AV} (ht:B4 f1 op.k=some (g,as)) (h:KJ F g as k μ1 v k2 μ2):Ci F own n ops op k f1 μ1 v k2 μ2:=by
 intro o w0 S γ w a K' Q hco hW hF hN hK;obtain⟨ow,hkk,hdst,-,-⟩:=cJ (C:=F.C k) hco;have hf:∀t,VR w S γ (get f1 t) (a.eval (.tmp t)):=hF.val;have fin:∀{us:List Value} {first args caps:Array Value},PW (VR w S γ) as us→us.toArray=first++args++caps→Calls F.P g (first++args++caps) w fun e w'=>∃u,e= .returned u∧∃w0' S' γ',uF F.Fo w0 w0'∧ig w S γ w' S' γ'∧Wd (F.C k2) w0' S' γ' μ2 w'∧NS F.Fo w0' S'∧VR w' S' γ' v u:=fun {us first args caps} hv hus=>by
  rw[←hus];refine(h.2 w0 S γ w us hW hv hN).mono fun e w' hh=>?_
  obtain⟨u,w0',S',γ',h1,h2,h3,h4,h5,h6⟩:=hh;exact⟨u,h1,w0',S',γ',h2,h3,h4,h5,h6⟩
 have hK':∀u w',(∃w0' S' γ',uF F.Fo w0 w0'∧ig w S γ w' S' γ'∧Wd (F.C k2) w0' S' γ' μ2 w'∧NS F.Fo w0' S'∧VR w' S' γ' v u)→K' (a.put o.dst u) w':=fun u w' ⟨w0',S',γ',h2,h3,h4,h5,h6⟩=>hK u w0' w' S' γ' h2 h3 h4 h5 h6
 refine rF ?_;revert hkk ht;generalize op.k=kk;intro ht hkk;cases kk with
 |call g' as' =>
  injection ht with ht
  injection ht with e1 e2
  subst e1 e2;obtain⟨c,hop,hcc⟩:=fL hkk rfl;rcases fM hcc rfl with⟨g',as',hc1,hc2,he'⟩|⟨t,as',hc1,hc2,he'⟩
  ·injection he' with e1 e2
   subst e1 e2;have hv:=ij (w:=w) (S:=S) (γ:=γ) (f:=f1) (a:=a) hc2 fun t _=>hf t
   exact jB (C:=F.C k) (first:=#[]) (args:=c.args.map a.eval) (caps:=#[]) hop h.1 ⟨_,hc1,rfl⟩ rfl (fin hv (by simp[←Array.toList_map])) hK'
  cases he'
 |callv x as' =>
  obtain⟨c,hop,hcc⟩:=fL hkk rfl;rcases fM hcc rfl with⟨g',as',hc1,hc2,he'⟩|⟨t,as',hc1,hc2,he'⟩
  ·cases he'
  injection he' with e1 e2
  subst e1 e2;have hv:=ij (w:=w) (S:=S) (γ:=γ) (f:=f1) (a:=a) hc2 fun t _=>hf t
  have hx:=hf t;simp only[B4]at ht;split at ht
  ·rename_i g0 caps hg;injection ht with ht
   injection ht with e1 e2
   subst e1 e2;simp only[ev]at hg;rw[hg]at hx;generalize hxe:a.eval (.tmp t)=xv at hx;cases hx with
   |fn _ _ cs hl hat =>
    exact jB (C:=F.C k) (first:=#[]) (args:=c.args.map a.eval) (caps:=cs.toArray) hop h.1 ⟨_,hc1,hxe⟩ rfl (fin (hv.append ⟨hl,hat⟩) (by simp[←Array.toList_map])) hK'
  ·rename_i g0 first hg
   injection ht with ht
   injection ht with e1 e2
   subst e1 e2;simp only[ev]at hg;rw[hg]at hx;generalize hxe:a.eval (.tmp t)=xv at hx;cases hx with
   |bm _ _ cs hl hat =>
    exact jB (C:=F.C k) (first:=cs.toArray) (args:=c.args.map a.eval) (caps:=#[]) hop h.1 ⟨_,hc1,hxe⟩ rfl (fin (PW.append ⟨hl,hat⟩ hv) (by simp[←Array.toList_map])) hK'
  ·rename_i g0 x y hg;split at ht
   ·rename_i hxa hya;injection ht with ht
    injection ht with e1 e2
    subst e1 e2;simp only[ev]at hg;rw[hg]at hx;generalize hxe:a.eval (.tmp t)=xv at hx;obtain rfl:=dq hx;obtain rfl:x=#[]:=by cases x;simp only at hxa;subst hxa;rfl
    obtain rfl:y=#[]:=by cases y;simp only at hya;subst hya;rfl
    exact jB (C:=F.C k) (first:=#[]) (args:=c.args.map a.eval) (caps:=#[]) hop h.1 ⟨_,hc1,hxe⟩ rfl (fin hv (by simp[←Array.toList_map])) hK'
   cases ht
  cases ht
 |_=>cases ht
theorem AA {op:bx} {l:Nat} {x:cn} {as':List cn} {f1:AF} {μ1 μ2:AM} {v:AV} (hk:op.k= .callv x as') (hx:ev f1 x= .pv (.val (.func (.yield l) #[] #[]))) (h:Ch F l (as'.map (ev f1)) k μ1 v k2 μ2):Ci F own n ops op k f1 μ1 v k2 μ2:=by
 intro o w0 S γ w a K' Q hco hW hF hN hK;obtain⟨ow,hkk,hdst,-,-⟩:=cJ (C:=F.C k) hco;rw[hk]at hkk;obtain⟨c,hop,hcc⟩:=fL hkk rfl;rcases fM hcc rfl with⟨g',as2,hc1,hc2,he'⟩|⟨t,as2,hc1,hc2,he'⟩
 ·cases he'
 injection he' with e1 e2
 subst e1 e2;have hv:=ij (w:=w) (S:=S) (γ:=γ) (f:=f1) (a:=a) hc2 fun t _=>hF.val t
 have hxv:=hF.val t;simp only[ev]at hx;rw[hx]at hxv;have hxv:=dq hxv;obtain⟨fn,tmps,assign,body,hy,hR⟩:=h w0 S γ w _ hW hv hN;obtain⟨callee,args0,ts⟩:=c;simp only at hc1 hv hy;subst hc1;have hr:(execOp a.eval o).run F.P w= .ok (.round l fn tmps assign body) w:=by
  rw[←hy];have e:(args0.toList.map a.eval).toArray=args0.map a.eval:=by rw[←Array.toList_map,Array.toArray_toList]
  rw[e];simp[execOp,hop,resolve,hxv,Deferred.ofValue,invoke]
 unfold Oper.wpIn;refine⟨fun _ _=>trivial,?_⟩;show o.uponIn Fence.wide 1 F.P a K' Q ((execOp a.eval o).run F.P w);rw[hr,Oper.uponIn_round];refine⟨(fun h=>by cases h),hR.mono fun e w' hh=>?_⟩;obtain⟨u,w0',S',γ',rfl,h2,h3,h4,h5,h6⟩:=hh;exact hK u w0' w' S' γ' h2 h3 h4 h5 h6
def zl (F:Ay σ) (j:Nat) (al:List bx) (hs2:List (Nat×Hint)) (R:σ→Exit→AF→AM→Prop) (k:σ):Option (VC×List Prop×AF×AM)→Prop
 |some (vc,pr,f,μ)=>aI vc∧aP pr∧match al[j]? with
  |some o=>o.guard=none∧∃v k2 μ2,((∃g as,B4 f o.k=some (g,as)∧KJ F g as k μ v k2 μ2)∨(∃x as l,o.k= .callv x as∧ev f x= .pv (.val (.func (.yield l) #[] #[]))∧Ch F l (as.map (ev f)) k μ v k2 μ2)) ∧
    gN (R k2 .normal) (cV (ah (F.C k2)) (aA (F.C k2)) true false (al.drop (j+1)) hs2 0 [] [] (put f o.dst v) μ2)
  |none=>False
 |none=>False
theorem zm (j:Nat) {al:List bx} (hs hs2:List (Nat×Hint)) (h:zl F j al hs2 R k (cV (ah (F.C k)) (aA (F.C k)) true false (al.take j) hs 0 [] [] f μ)):zk F own n m (.region false al) R k f μ:=by
 intro c hc;obtain⟨id,ops,rfl,g1,-⟩:=jE hc;unfold zl at h;split at h
 ·rename_i vc pr f1 μ1 he;obtain⟨h1,h2,h3⟩:=h;split at h3
  ·rename_i o ho;obtain⟨hg,v,k2,μ2,hm,ha⟩:=h3;unfold gN at ha;split at ha
   ·rename_i he2;refine Cj g1 ho hg he h1 h2 ?_ he2 ha.1 ha.2.1 ha.2.2;rcases hm with⟨g,as,hp,hy⟩|⟨x,as,l,hk,hx,hy⟩
    ·exact Ck hp hy
    exact AA hk hx hy
   exact ha.elim
  exact h3.elim
 exact h.elim
def H3 (rs:List iU) (r:AV) (k':σ) (μ0:AM):σ→Exit→AF→AM→Prop:=fun k e f μ=>match e with
 | .normal| .ret=>k=k'∧∃vc junk,bM f μ rs=some (vc,r)∧aI vc∧μ=μ0++junk
 |_=>False
theorem H4 {fid:FuncId} {q:Nat} {rs:List iU} {x:af} {as:List AV} {r:AV} {μ0 μ1:AM} (h:Fn (F.C k) fid own n q rs x) (hq:as.length=q) (hl:μ0.length≤μ1.length) (hr:cC 3 μ1.length r=true) (hm:aY μ1 μ1.length=true)
  (hb:zk F own n μ0.length x (H3 rs r k2 μ1) k (jR 0 as) μ0):KJ F fid as k μ0 r k2 μ1:=by
 obtain⟨fn,c,h1,h2,h3,h4,h5,h6,h7⟩:=h.ex;refine⟨h7,fun w0 S γ w us hW hp hN=>?_⟩;have hus:us.length≤fn.ntmps:=by rw[←hp.len];omega
 refine calls_of_wp h1 h2 (wp_mono (hb c h3 w0 S γ w _ hW (by rw[←h5,show F.D=[] from h.dz];exact nV hp hus) hN) fun e a' w' hh=>?_);obtain⟨k',w2,S',γ',f',μ',g0,g1,g2,g3,gn,g4⟩:=hh;have fin:(k'=k2∧∃vc junk,bM f' μ' rs=some (vc,r)∧aI vc∧μ'=μ1++junk)→a'.defers=[]∧∃v,(results fn a'.tmps).run F.P w'= .ok v w'∧∃v_1 w0' S' γ',Ending.returned v=Ending.returned v_1∧uF F.Fo w0 w0'∧ig w S γ w' S' γ'∧Wd (F.C k2) w0' S' γ' μ1 w'∧NS F.Fo w0' S'∧VR w' S' γ' r v_1:=by
  rintro⟨rfl,vc,junk,e1,e2,rfl⟩;obtain⟨u,hu,hv⟩:=kA (C:=F.C k') g2 g3 h4 e1 e2;have hγ:∀b,b<μ1.length→cQ γ' μ1.length b=γ' b:=fun b h=>by simp[cQ,h]
  refine⟨g3.defers.trans h.dz,u,hu,u,w2,S',cQ γ' μ1.length,rfl,g0,⟨g1.stay,fun b e hb=>?_,g1.more,fun b e' hb=>?_,g1.size⟩,g2.drop hm,gn,qZ hγ 3 hr hv⟩
  ·have hbl:b<μ0.length:=by
    apply Classical.byContradiction;intro hn;rw[hW.mem.none b (by omega)]at hb;cases hb
   obtain⟨e',k1,k2,k3⟩:=g1.gh b e hbl hb;exact⟨e',(hγ b (by omega)).trans k1,k2,k3⟩
  unfold cQ at hb;split at hb
  ·exact g1.cbs b e' hb
  cases hb
 cases e with
 |normal=>exact fin g4
 |ret=>exact fin g4
 |_=>exact g4.elim
end
end
section
structure jH (w:World) (l:Nat):Prop where
 cell:∀i,w.cell? ⟨l,i,none⟩=none
 map:∀es clock,w.heap[l]?≠some (.map es clock)
 cells:∀cs e fz,w.heap[l]?≠some (.cells cs e fz)
theorem ni {w:World} {l:Nat} {r:Loop} (h:w.heap[l]?=some (.loop r)):jH w l :=
 ⟨fun i=>by simp[World.cell?,h],fun es c=>by rw[h];exact(fun h=>by cases h),fun cs e fz=>by rw[h];exact(fun h=>by cases h)⟩
theorem AB {w:World} {l:Nat} {r:Option (List Deferred)} (h:w.heap[l]?=some (.deferred r)):jH w l :=
 ⟨fun i=>by simp[World.cell?,h],fun es c=>by rw[h];exact(fun h=>by cases h),fun cs e fz=>by rw[h];exact(fun h=>by cases h)⟩
section
variable {w:World} {l:Nat} {o:Obj} {S:Nat→Prop} {γ:Gh}
theorem jH.at_ (hl:jH w l) {g i:Nat} {v:Value} (h:w.cell? ⟨g,i,none⟩=some v):(w.putObj l o).cell? ⟨g,i,none⟩=some v:=by
 have hg:g≠l:=by
  rintro rfl;rw[hl.cell i]at h;cases h
 exact(World.cell?_of_block (World.putObj_heap_other hg)).trans h
theorem jH.OZ (hl:jH w l) {p:PV} {v:Value} (h:Is w S p v):Is (w.putObj l o) S p v:=by
 induction h with
 |int k n=>exact .int k n
 |bool b=>exact .bool b
 |str s=>exact .str s
 |agg l cs hl _ ih=>exact .agg l cs hl ih
 |tup l cs hl _ ih=>exact .tup l cs hl ih
 |nilsl=>exact .nilsl
 |sl n l g o cap c h1 h2 h3 h4 h5 _ ih=>exact .sl n l g o cap c h1 h2 h3 (fun i p hp=>hl.at_ (h4 i p hp)) h5 ih
 |sl0=>exact .sl0
 |slz a cap h=>exact .slz a cap h
 |val v=>exact .val v
 |iface t p=>exact .iface t p
 |mp l r es clock h1 h2 h3 _ ih=>exact .mp l r es clock h1 ((World.putObj_heap_other (by rintro rfl;exact hl.map _ _ h2)).trans h2) h3 ih
theorem jH.vr (hl:jH w l) {p:AV} {v:Value} (h:VR w S γ p v):VR (w.putObj l o) S γ p v:=by
 induction h with
 |pv p v hp=>exact .pv p v (hl.OZ hp)
 |ref b g off n v e a c h1 h2 h3 h4=>exact .ref b g off n v e a c h1 h2 h3 h4
 |ptr b g off v e a h1 h2 h3 h4=>exact .ptr b g off v e a h1 h2 h3 h4
 |iptr l off g o c hS hc hi=>exact .iptr l off g o c hS (fun i p hp=>hl.at_ (hc i p hp)) fun i p hp=>hl.OZ (hi i p hp)
 |agg l cs hl _ ih=>exact .agg l cs hl ih
 |tup l cs hl _ ih=>exact .tup l cs hl ih
 |fn f l cs hl _ ih=>exact .fn f l cs hl ih
 |bm f l cs hl _ ih=>exact .bm f l cs hl ih
 |map b g v e r h1 h2 h3 h4=>exact .map b g v e r h1 h2 h3 h4
 |ifb c a v _ h2 ih=>exact .ifb c a v ih h2
 |any v=>exact .any v
theorem jH.mem {w0:World} {μ:AM} (hl:jH w l) (h:iO w0 S γ μ w):iO w0 S γ μ (w.putObj l o):=by
 refine⟨fun b k hk hz=>?_,fun b k hk hz=>?_,h.none,h.inj⟩
 ·obtain⟨e,cs,h1,h2,h3,⟨fz,h4,h4'⟩,h5,h6,h7,h8,h9⟩:=h.blk b k hk hz;refine⟨e,cs,h1,h2,h3,⟨fz,(World.putObj_heap_other (by rintro rfl;exact hl.cells _ _ _ h4)).trans h4,h4'⟩,h5,h6,fun i a ha=>?_,h8,h9⟩;obtain⟨v,g1,g2,g3⟩:=h7 i a ha;exact⟨v,g1,hl.vr g2,g3⟩
 obtain⟨e,h1,h2,h3,⟨es,c,h4,h5,h6⟩,h7,h8⟩:=h.mp b k hk hz;exact⟨e,h1,h2,h3,⟨es,c,(World.putObj_heap_other (by rintro rfl;exact hl.map _ _ h4)).trans h4,⟨h5.len,fun i a b ha hb=>hl.vr (h5.at_ i a b ha hb)⟩,h6⟩,h7,h8⟩
theorem AD {B:Nat} {w0:World} (h:Below B w0 w) (hl:B≤l):Below B w0 (w.putObj l o) :=
 h.trans ⟨rfl,rfl,rfl,by simp,fun k hk=>World.putObj_heap_other (by omega)⟩
theorem jH.wd {C:Ctx} {w0:World} {μ:AM} (hl:jH w l) (h:Wd C w0 S γ μ w) (h0:w0.heap.size≤l):Wd C w0 S γ μ (w.putObj l o) :=
 ⟨hl.mem h.mem,AD h.below h0,fun g hg=>by rw[World.putObj_size];exact h.live g hg,h.env⟩
theorem jH.fr {D:List Deferred} {n:Nat} {f:AF} {a:Act} (hl:jH w l) (h:FR D n w S γ f a):FR D n (w.putObj l o) S γ f a :=
 ⟨h.size,h.defers,fun t=>hl.vr (h.val t)⟩
theorem Is.up {S':Nat→Prop} (h:∀g,S g→S' g) {p:PV} {v:Value} (hp:Is w S p v):Is w S' p v:=hp.stay ⟨h,fun _ _=>rfl⟩
end
theorem mL {P:Program} {own:Nat→Bool} {n:Nat} {c:Code} {o:cn} {x y:af} (hc:comp P own n c=some (.cond o x y)):∃q a b,c= .cond q a b∧aB q=some o∧comp P own n a=some x∧comp P own n b=some y:=by
 cases c<;>simp only[comp]at hc;case cond q a b =>
  split at hc
  ·rename_i o' x' y' h0 h1 h2;injection hc with hc;injection hc with e0 e1 e2
   subst e0 e1 e2;exact⟨q,a,b,rfl,h0,h1,h2⟩
  cases hc
 all_goals repeat' split at hc
 all_goals first
  |(cases hc;done)
  |(injection hc with hc;cases hc;done)
  |(rcases ck hc with hc|hc|hc<;>cases hc)
theorem lZ {P:Program} {own:Nat→Bool} {n id:Nat} {c:Code} {x:af} (hc:comp P own n c=some (.block id x)):∃a,c= .block id a∧comp P own n a=some x:=by
 cases c<;>simp only[comp]at hc;case block i a =>
  split at hc
  ·rename_i x' h1;injection hc with hc;injection hc with e0 e1
   subst e0 e1;exact⟨a,rfl,h1⟩
  cases hc
 all_goals repeat' split at hc
 all_goals first
  |(cases hc;done)
  |(injection hc with hc;cases hc;done)
  |(rcases ck hc with hc|hc|hc<;>cases hc)
theorem uG {P:Program} {own:Nat→Bool} {n:Nat} {c:Code} (hc:comp P own n c=some .ret):c= .ret:=by
 cases c<;>simp only[comp]at hc;case ret=>rfl
 all_goals repeat' split at hc
 all_goals first
  |(cases hc;done)
  |(injection hc with hc;cases hc;done)
  |(rcases ck hc with hc|hc|hc<;>cases hc)
theorem tc {P:Program} {own:Nat→Bool} {n:Nat} {c:Code} (hc:comp P own n c=some .skip):c= .skip:=by
 cases c<;>simp only[comp]at hc;case skip=>rfl
 all_goals repeat' split at hc
 all_goals first
  |(cases hc;done)
  |(injection hc with hc;cases hc;done)
  |(rcases ck hc with hc|hc|hc<;>cases hc)
theorem rG {P:Program} {own:Nat→Bool} {n:Nat} {c:Code} {g:cn} {ps:List Nat} {x y:af} (hc:comp P own n c=some (.range g ps x y)):∃q qs a b,c= .rangeFunc q qs a b∧aB q=some g∧qs.toList=ps∧comp P own n a=some x∧comp P own n b=some y:=by
 cases c<;>simp only[comp]at hc;case rangeFunc q qs a b =>
  split at hc
  ·rename_i o' x' y' h0 h1 h2;injection hc with hc;injection hc with e0 e1 e2 e3
   subst e0 e1 e2 e3;exact⟨q,qs,a,b,rfl,h0,rfl,h1,h2⟩
  cases hc
 all_goals repeat' split at hc
 all_goals first
  |(cases hc;done)
  |(injection hc with hc;cases hc;done)
  |(rcases ck hc with hc|hc|hc<;>cases hc)
theorem AE {P:Program} {own:Nat→Bool} {n:Nat} {ops:Array Oper} {o:Oper} {ao:bx} (h:eu P own n ops o=some ao):∀c,o.op≠.defer c:=by
 intro c hc;unfold eu at h;rw[hc]at h;simp[jx]at h
theorem wF {P:Program} {l:Nat} {o:Oper} {a:Act} {w:World} {K:Act→World→Prop} {Q:Exit→Act→World→Prop} (hnd:∀c,o.op≠.defer c) (h:o.wp P a w K Q):o.wpIn (Fence.wide.inRound l) 0 P a w K Q:=by
 unfold Oper.wpIn;refine⟨fun _ _=>trivial,?_⟩;rw[Oper.semAt_eq _ _ _ hnd];unfold Oper.wp at h;generalize (execOp a.eval o).run P w=r at *;cases r with
 |ok x w' =>
  cases x with
  |enter g args=>exact⟨(fun h=>by cases h),(callsIn_wide (n:=0).mpr h).inRound l⟩
  |row row args=>exact⟨(fun h=>by cases h),tJ h⟩
  |_=>simp only[Oper.upon,Oper.uponIn]at h ⊢<;>first|exact h|exact h.elim
 |halt x w'=>cases x<;>simp only[Oper.upon,Oper.uponIn]at h ⊢<;>first|exact h|exact h.elim
theorem yf {P:Program} {l:Nat} {ops:Array Oper} {o:Oper} {i:Nat} {a:Act} {w:World} {K:Act→World→Prop} {Q:Exit→Act→World→Prop} (ho:ops[i]?=some o) (hnd:∀c,o.op≠.defer c) (h:ly P ops o a w K Q):wpOpIn (Fence.wide.inRound l) 0 P ops Q i K a w:=by
 unfold wpOpIn;rw[ho];simp only;unfold ly at h;split
 ·rename_i hw;rw[if_pos hw]at h;exact wF hnd h
 rename_i hw;rw[if_neg hw]at h;exact⟨fun _ _=>trivial,h⟩
section
variable {C:Ctx} {l:Nat} {own:Nat→Bool} {n m:Nat} {R:Exit→AF→AM→Prop} {f:AF} {μ:AM}
def zp (C:Ctx) (l:Nat) (own:Nat→Bool) (n m:Nat) (x:af) (R:Exit→AF→AM→Prop) (f:AF) (μ:AM):Prop :=
 ∀c,comp C.P own n c=some x→∀(w0:World) (S:Nat→Prop) (γ:Gh) (w:World) (a:Act),Wd C w0 S γ μ w→FR C.D n w S γ f a→c.wpIn (Fence.wide.inRound l) 0 C.P (Ends C n m w0 w S γ R) a w
theorem uH {x y:af} (h:zp C l own n m x (eb (fun f μ=>zp C l own n m y R f μ) R) f μ):zp C l own n m (.seq x y) R f μ:=by
 intro c hc w0 S γ w a hW hF;obtain⟨c1,c2,rfl,h1,h2⟩:=kT hc;refine wpIn_seq (wpIn_mono (h c1 h1 w0 S γ w a hW hF) fun e a' w' hE=>?_);obtain⟨S',γ',f',μ',g1,g2,g3,g5⟩:=hE;cases e with
 |normal=>exact wpIn_mono (g5 c2 h2 w0 S' γ' w' a' g2 g3) fun e a'' w'' hh=>hh.ext g1
 |_=>exact⟨S',γ',f',μ',g1,g2,g3,g5⟩
theorem Cl {o:cn} {x y:af} {t:Bool} (ho:ev f o= .pv (.bool t)) (h:zp C l own n m (bif t then x else y) R f μ):zp C l own n m (.cond o x y) R f μ:=by
 intro c hc w0 S γ w a hW hF;obtain⟨q,c1,c2,rfl,h0,h1,h2⟩:=mL hc;have hv:=aO (w:=w) (S:=S) (γ:=γ) (f:=f) (a:=a) h0 fun t _=>hF.val t
 rw[ho]at hv;have hv:=cd hv;refine wpIn_cond hv ?_;cases t with
 |true=>exact h c1 h1 w0 S γ w a hW hF
 |false=>exact h c2 h2 w0 S γ w a hW hF
theorem AG {id:Nat} {x:af} (h:zp C l own n m x (ec id R) f μ):zp C l own n m (.block id x) R f μ:=by
 intro c hc w0 S γ w a hW hF;obtain⟨c1,rfl,h1⟩:=lZ hc;refine wpIn_block (wpIn_mono (h c1 h1 w0 S γ w a hW hF) fun e a' w' hE=>?_);obtain⟨S',γ',f',μ',g1,g2,g3,g5⟩:=hE;cases e with
 |exit i =>
  simp only[ec]at g5;simp only[Exit.inBlock];by_cases hi:i=id
  ·subst hi;rw[if_pos rfl];rw[Nat.beq_refl,cond_true]at g5;exact⟨S',γ',f',μ',g1,g2,g3,g5⟩
  rw[if_neg hi];rw[tw hi,cond_false]at g5;exact⟨S',γ',f',μ',g1,g2,g3,g5⟩
 |_=>exact⟨S',γ',f',μ',g1,g2,g3,g5⟩
theorem EN (h:R .ret f μ):zp C l own n m .ret R f μ:=by
 intro c hc w0 S γ w a hW hF;obtain rfl:=uG hc;exact wpIn_ret ⟨S,γ,f,μ,fH.refl _ _ _ _,hW,hF,h⟩
theorem Cm (h:R .normal f μ):zp C l own n m .skip R f μ:=by
 intro c hc w0 S γ w a hW hF;obtain rfl:=tc hc;exact wpIn_skip ⟨S,γ,f,μ,fH.refl _ _ _ _,hW,hF,h⟩
theorem uI (cm:Bool) {al:List bx} (hs:List (Nat×Hint)) (h:gN (R .normal) (cV (ah C) (aA C) cm false al hs 0 [] [] f μ)):zp C l own n m (.region false al) R f μ:=by
 intro c hc;obtain⟨id,ops,rfl,hc,-⟩:=jE hc;unfold gN at h;split at h
 ·rename_i vc pr f' μ' he;obtain⟨hvc,hpr,hR⟩:=h;intro w0 S γ w a hW hF;refine wpIn_region ?_;obtain⟨-,F,M,V,h1,h2,h3,h4,h5⟩:=da al 0 [] [] f μ vc pr f' μ' he hvc hpr;obtain⟨hl,hat⟩:=dQ hc;replace hl:al.length=ops.size:=hl.trans (Array.length_toList);rw[Nat.zero_add]at h3 h4;have key:∀(l' k:Nat),k+l'=ops.size→∀(S1:Nat→Prop) (γ1:Gh) (w1:World) (a1:Act),Ext w S γ w1 S1 γ1→Wd C w0 S1 γ1 (M k) w1→FR C.D n w1 S1 γ1 (F k) a1→wpOpsIn (Fence.wide.inRound l) 0 C.P ops (Ends C n m w0 w S γ R) (List.range' k l') a1 w1:=by
   intro l';induction l' with
   |zero =>
    intro k hk S1 γ1 w1 a1 hE hW1 hF1;simp only[List.range'_zero,wpOpsIn];have:k=al.length:=by rw[hl];omega
    subst this;rw[h4]at hW1;rw[h3]at hF1;exact⟨S1,γ1,f',μ',hE.ue m,hW1,hF1,hR⟩
   |succ l' ih =>
    intro k hk S1 γ1 w1 a1 hE hW1 hF1;rw[List.range'_succ,wpOpsIn_cons];have hkl:k<ops.size:=by omega
    have ho:ops[k]?=some ops[k]:=by simp[hkl]
    obtain⟨ao,hao,hco⟩:=hat k ops[k] (by rw[Array.getElem?_toList];exact ho);obtain⟨vcj,prj,k1,k2,k3,k4⟩:=h5 k ao hao;rw[Nat.zero_add]at k1 k4;obtain⟨-,-,hdst,hlt,-⟩:=cJ hco;refine yf ho (AE hco) (bL hW1 hco k1 k2 k3 (fun t _=>hF1.val t) fun u w2 S2 γ2 hE2 hW2 hv=>?_);refine ih (k+1) (by omega) S2 γ2 w2 _ (hE.trans hE2) hW2 ?_;rw[k4,hdst];exact(hF1.ext hE2).put hv hlt
  rw[List.range_eq_range'];exact key ops.size 0 (by omega) S γ w a (Ext.refl _ _ _) (by rw[h2];exact hW) (by rw[h1];exact hF)
 exact h.elim
end
end
section
def AH (q:Nat):AF→Bool
 |[]=>true
 |(_,.ptr b _ _)::r=>Nat.blt b q&&AH q r
 |_::_=>false
theorem rH {q:Nat}:∀{g:AF},AH q g=true→∀t,get g t= .any∨∃b gn off,get g t= .ptr b gn off∧b<q
 |[],_,t=>.inl rfl
 |(d,v)::r,h,t=>by
  cases v<;>simp only[AH,Bool.false_eq_true,Bool.and_eq_true]at h;rename_i b gn off;simp only[get];cases hd:Nat.beq d t with
  |true=>exact .inr ⟨b,gn,off,rfl,Nat.blt_eq.mp h.1⟩
  |false=>exact rH h.2 t
def yg:AV→Bool
 | .pv (.int _ _)=>true
 | .pv (.bool _)=>true
 | .pv (.str _)=>true
 |_=>false
theorem zr {a:AV} {v:Value} {w w':World} {S S':Nat→Prop} {γ γ':Gh} (h:yg a=true) (hv:VR w S γ a v):VR w' S' γ' a v:=by
 unfold yg at h;split at h
 ·rw[dU hv];exact .pv _ _ (.int _ _)
 ·rw[cd hv];exact .pv _ _ (.bool _)
 ·rw[jy hv];exact .pv _ _ (.str _)
 cases h
structure Cn (k:dI):Prop where
 cells:∀a∈k.cells,yg a=true
 frozen:k.frozen=false
 gen:k.gen=0
 sz:k.sz≠0
def EO (γ:Gh) (q l g:Nat):Prop:=g=l∨∃b e,b<q∧γ b=some e∧e.cb=g
structure H5 (Fo:Nat→Prop) (w1 w:World):Prop where
 os:w.os=w1.os
 tape:w.tape=w1.tape
 output:w.output=w1.output
 size:w1.heap.size≤w.heap.size
 block:∀g,g<w1.heap.size→¬Fo g→w.heap[g]?=w1.heap[g]?
def rI (L:Loop) (st:Bool):Loop:={L with state:=bif st then .done else .ready,pending:=bif st then some .ret else none}
def busy (L:Loop):Loop:={L with state:=.busy,pending:=none}
structure Site (σ:Type) where
 C:Ctx
 w0:World
 w1:World
 S:Nat→Prop
 γ:Gh
 q:Nat
 l:Nat
 fo:σ→AM
 L:Loop
 stop:σ→Bool
structure Site.OK {σ:Type} (X:Site σ):Prop where
 D:X.C.D=[]
 env:X.C.E X.w0
 below:Below X.w0.heap.size X.w0 X.w1
 live:∀g,X.S g→g<X.w1.heap.size
 l0:X.w0.heap.size≤X.l
 l1:X.l<X.w1.heap.size
 cb:∀b e,b<X.q→X.γ b=some e→X.w0.heap.size≤e.cb∧e.cb<X.w1.heap.size∧e.cb≠X.l∧¬X.S e.cb
 len:∀k,(X.fo k).length=X.q
 lit:∀k b,b∈X.fo k→Cn b
variable {σ:Type}
def Site.E (X:Site σ) (k:σ) (w:World):Prop:=H5 (EO X.γ X.q X.l) X.w1 w∧iO X.w0 X.S (cQ X.γ X.q) (X.fo k) w∧w.heap[X.l]?=some (.loop (rI X.L (X.stop k)))
theorem Site.OK.Co {X:Site σ} (hX:X.OK) {g:Nat} (hg:EO X.γ X.q X.l g):X.w0.heap.size≤g∧g<X.w1.heap.size:=by
 rcases hg with rfl|⟨b,e,h1,h2,rfl⟩
 ·exact⟨hX.l0,hX.l1⟩
 exact⟨(hX.cb b e h1 h2).1,(hX.cb b e h1 h2).2.1⟩
theorem Site.OK.nj {X:Site σ} (hX:X.OK) {w:World} (h:H5 (EO X.γ X.q X.l) X.w1 w):Below X.w0.heap.size X.w0 w :=
 ⟨h.os.trans hX.below.os,h.tape.trans hX.below.tape,h.output.trans hX.below.output,Nat.le_trans hX.below.size h.size,fun g hg =>
  (h.block g (Nat.lt_of_lt_of_le hg hX.below.size) fun hf=>by have:=(hX.Co hf).1;omega).trans (hX.below.block g hg)⟩
theorem Site.OK.hE {X:Site σ} (hX:X.OK) (k:σ) (w w':World) (h:X.E k w) (hb:Below w.heap.size w w'):X.E k w':=by
 obtain⟨h1,h2,h3⟩:=h;have hl:X.l<w.heap.size:=Nat.lt_of_lt_of_le hX.l1 h1.size;refine⟨⟨hb.os.trans h1.os,hb.tape.trans h1.tape,hb.output.trans h1.output,Nat.le_trans h1.size hb.size,fun g hg hf=>(hb.block g (Nat.lt_of_lt_of_le hg h1.size)).trans (h1.block g hg hf)⟩,?_,(hb.block _ hl).trans h3⟩;exact h2.stay (S':=X.S) ⟨⟨fun _ h=>h,fun g hg=>hb.block g (Nat.lt_of_lt_of_le (hX.live g hg) h1.size)⟩,fun _ e h=>⟨e,h,Nat.le_refl _,fun _=>rfl⟩,fun _ h=>.inl h,fun b e h=>.inl ⟨b,e,h,rfl⟩,hb.size⟩ (fun b e he hlt=>hb.block _ hlt) fun b k e _ _ _ _ h=>h
def Site.xo (X:Site σ) (hX:X.OK):Ay σ:=⟨X.C.P,X.C.mixed,[],X.E,hX.hE,EO X.γ X.q X.l⟩
def Cp (μ1:AM) (go:Bool):Exit→AF→AM→Prop:=fun e _ μ=>match e with
 | .normal=>go=true∧∃junk,μ=μ1++junk
 | .ret=>go=false∧∃junk,μ=μ1++junk
 |_=>False
theorem fl {γ:Gh} {q b:Nat} {e:sO} (h:cQ γ q b=some e):b<q∧γ b=some e:=by
 unfold cQ at h;split at h
 ·exact⟨by assumption,h⟩
 cases h
theorem uJ {w0 w w':World} {S S':Nat→Prop} {γ:Gh} {μ:AM} (h:iO w0 S γ μ w) (hl:∀b∈μ,Cn b) (hS:∀b e,b<μ.length→γ b=some e→¬S' e.cb) (hh:∀b e,b<μ.length→γ b=some e→w'.heap[e.cb]?=w.heap[e.cb]?):iO w0 S' γ μ w':=by
 refine⟨fun b k hk hz=>?_,fun b k hk hz=>?_,h.none,h.inj⟩
 ·obtain⟨e,cs,h1,h2,h3,h4,h5,h6,h7,h8,h9⟩:=h.blk b k hk hz;have hb:=(List.getElem?_eq_some_iff.mp hk).1;refine⟨e,cs,h1,h2,h3,h4.congr (hh b e hb h1) rfl id,h5,h6,fun i a ha=>?_,h8,fun _=>hS b e hb h1⟩;obtain⟨v,g1,g2,g3⟩:=h7 i a ha;exact⟨v,g1,zr ((hl k (List.mem_of_getElem? hk)).cells a (List.mem_of_getElem? ha)) g2,g3⟩
 exact absurd hz (hl k (List.mem_of_getElem? hk)).sz
end
section
def mark (r:Nat):Deferred:={target:=.collected r,args:=#[]}
def Mk (w0:World) (S:Nat→Prop) (w:World) (D:List Deferred):Prop :=
 ∃l:List Nat,D=l.map mark∧l.Nodup∧∀r∈l,S r∧w0.heap.size≤r∧w.heap[r]?=some (.deferred (some []))
def zt (C:Ctx) (n m:Nat) (w0 w:World) (S:Nat→Prop) (γ:Gh) (R:Exit→AF→AM→Prop):Exit→Act→World→Prop :=
 fun x a' w'=>∃D S' γ' f' μ',fH m w S γ w' S' γ'∧Wd C w0 S' γ' μ' w'∧FR D n w' S' γ' f' a'∧Mk w0 S' w' D∧R x f' μ'
def Ej (C:Ctx) (own:Nat→Bool) (n m:Nat) (x:af) (R:Exit→AF→AM→Prop) (f:AF) (μ:AM):Prop :=
 ∀c,comp C.P own n c=some x→∀(D:List Deferred) (w0:World) (S:Nat→Prop) (γ:Gh) (w:World) (a:Act),Wd C w0 S γ μ w→FR D n w S γ f a→Mk w0 S w D→c.wpIn Fence.wide 1 C.P (zt C n m w0 w S γ R) a w
section
variable {C:Ctx} {own:Nat→Bool} {n m:Nat} {R:Exit→AF→AM→Prop} {f:AF} {μ:AM}
theorem Mk.ext {w0 w w':World} {S S':Nat→Prop} {γ γ':Gh} {D:List Deferred} (h:Mk w0 S w D) (hE:fH m w S γ w' S' γ'):Mk w0 S' w' D:=by
 obtain⟨l,h1,h2,h3⟩:=h;refine⟨l,h1,h2,fun r hr=>?_⟩;obtain⟨q1,q2,q3⟩:=h3 r hr;exact⟨hE.stay.set r q1,q2,(hE.stay.blk r q1).trans q3⟩
theorem zt.ext {w0 w w1:World} {S S1:Nat→Prop} {γ γ1:Gh} {x:Exit} {a':Act} {w':World} (hE:fH m w S γ w1 S1 γ1) (h:zt C n m w0 w1 S1 γ1 R x a' w'):zt C n m w0 w S γ R x a' w':=by
 obtain⟨D,S',γ',f',μ',g1,g2,g3,g4,g5⟩:=h;exact⟨D,S',γ',f',μ',hE.trans g1,g2,g3,g4,g5⟩
theorem om {x:af} (h:∀D,Aw {C with D:=D} own n m x R f μ):Ej C own n m x R f μ:=by
 intro c hc D w0 S γ w a hW hF hM;rw[wpIn_wide];refine wp_mono (h D c hc w0 S γ w a ⟨hW.mem,hW.below,hW.live,hW.env⟩ hF) fun e a' w' hh=>?_
 obtain⟨S',γ',f',μ',h1,h2,h3,h4⟩:=hh;exact⟨D,S',γ',f',μ',h1,⟨h2.mem,h2.below,h2.live,h2.env⟩,h3,hM.ext h1,h4⟩
theorem oo {x y:af} (h:Ej C own n m x (eb (fun f μ=>Ej C own n m y R f μ) R) f μ):Ej C own n m (.seq x y) R f μ:=by
 intro c hc D w0 S γ w a hW hF hM;obtain⟨c1,c2,rfl,h1,h2⟩:=kT hc;refine wpIn_seq (wpIn_mono (h c1 h1 D w0 S γ w a hW hF hM) fun e a' w' hE=>?_);obtain⟨D',S',γ',f',μ',g1,g2,g3,g4,g5⟩:=hE;cases e with
 |normal=>exact wpIn_mono (g5 c2 h2 D' w0 S' γ' w' a' g2 g3 g4) fun e a'' w'' hh=>hh.ext g1
 |_=>exact⟨D',S',γ',f',μ',g1,g2,g3,g4,g5⟩
theorem Cq {o:cn} {x y:af} {t:Bool} (ho:ev f o= .pv (.bool t)) (h:Ej C own n m (bif t then x else y) R f μ):Ej C own n m (.cond o x y) R f μ:=by
 intro c hc D w0 S γ w a hW hF hM;obtain⟨q,c1,c2,rfl,h0,h1,h2⟩:=mL hc;have hv:=aO (w:=w) (S:=S) (γ:=γ) (f:=f) (a:=a) h0 fun t _=>hF.val t
 rw[ho]at hv;have hv:=cd hv;refine wpIn_cond hv ?_;cases t with
 |true=>exact h c1 h1 D w0 S γ w a hW hF hM
 |false=>exact h c2 h2 D w0 S γ w a hW hF hM
theorem AI {id:Nat} {x:af} (h:Ej C own n m x (ec id R) f μ):Ej C own n m (.block id x) R f μ:=by
 intro c hc D w0 S γ w a hW hF hM;obtain⟨c1,rfl,h1⟩:=lZ hc;refine wpIn_block (wpIn_mono (h c1 h1 D w0 S γ w a hW hF hM) fun e a' w' hE=>?_);obtain⟨D',S',γ',f',μ',g1,g2,g3,g4,g5⟩:=hE;cases e with
 |exit i =>
  simp only[ec]at g5;simp only[Exit.inBlock];by_cases hi:i=id
  ·subst hi;rw[if_pos rfl];rw[Nat.beq_refl,cond_true]at g5;exact⟨D',S',γ',f',μ',g1,g2,g3,g4,g5⟩
  rw[if_neg hi];rw[tw hi,cond_false]at g5;exact⟨D',S',γ',f',μ',g1,g2,g3,g4,g5⟩
 |_=>exact⟨D',S',γ',f',μ',g1,g2,g3,g4,g5⟩
theorem Cr {a:AV} {d q:Nat} (h:yg a=true):cC d q a=true:=by
 unfold yg at h;split at h
 ·cases d<;>rfl
 ·cases d<;>rfl
 ·cases d<;>rfl
 cases h
theorem AJ {q:Nat} (h:∀b∈μ,Cn b):aY μ q=true:=by
 unfold aY;rw[List.all_eq_true];intro k hk;rw[List.all_eq_true];exact fun a ha=>Cr ((h k hk).cells a ha)
theorem wG {γ:Gh} {q b:Nat} (h:b<q):cQ γ q b=γ b:=by simp[cQ,h]
theorem wH {g0 f:AF} {q:Nat} {w w':World} {S S':Nat→Prop} {γ:Gh} {a:Act} (hg0:AH q g0=true) (hsub:Sub g0 f) (hv:∀t,VR w S γ (get f t) (a.eval (.tmp t))) (t:Nat):VR w' S' (cQ γ q) (get g0 t) (a.eval (.tmp t)):=by
 rcases pY hsub t with h|h
 ·rw[h];exact .any _
 rcases rH hg0 t with h'|⟨b,gn,off,h',hb⟩
 ·rw[h'];exact .any _
 have hv:=hv t;rw[←h,h']at hv;rw[h'];generalize a.eval (.tmp t)=u at *;cases hv with
 |ptr _ _ _ _ e x q1 q2 q3 q4=>exact .ptr b gn off _ e x (by rw[wG hb];exact q1) q2 q3 q4
end
theorem aA.O4 {C:Ctx} {g:FuncId} {as:List AV} {μ μ':AM} {r:AV} (h:aA C g as μ r μ') (D:List Deferred):aA {C with D:=D} g as μ r μ' :=
 ⟨h.1,fun w0 S γ w vs hW hp=>(h.2 w0 S γ w vs ⟨hW.mem,hW.below,hW.live,hW.env⟩ hp).mono fun e w' ⟨v,S',γ',h1,h2,h3,h4⟩=>⟨v,S',γ',h1,h2,⟨h3.mem,h3.below,h3.live,h3.env⟩,h4⟩⟩
def shut:List Nat→World→World
 |[],w=>w
 |r::l,w=>shut l (w.putObj r (.deferred none))
theorem oq {P:Program} {fn:Func} {tmps:Array Value} {R:Ending→World→Prop}:∀(l:List Nat) (w:World),l.Nodup→(∀r∈l,w.heap[r]?=some (.deferred (some []))) →
  LeavesIn Fence.wide 1 P fn tmps R [] .returning (shut l w)→LeavesInM Fence.wide 1 P fn tmps R (l.map mark) .returning w
 |[],_,_,_,h=>h
 |r::l,w,hn,hl,h=>by
  obtain⟨h1,h2⟩:=List.nodup_cons.mp hn;refine⟨by simp,.inl ⟨r,_,rfl,run_takeDeferred (hl r List.mem_cons_self),oq l _ h2 (fun r' hr'=>?_) h⟩⟩;rw[World.putObj_heap_other (by rintro rfl;exact h1 hr')];exact hl r' (List.mem_cons_of_mem _ hr')
theorem zu {C:Ctx} {w0:World} {S:Nat→Prop} {γ:Gh} {μ:AM}:∀(l:List Nat) (w:World),l.Nodup→(∀r∈l,w0.heap.size≤r∧w.heap[r]?=some (.deferred (some [])))→Wd C w0 S γ μ w →
  Wd C w0 S γ μ (shut l w)∧(shut l w).heap.size=w.heap.size∧∀a v,VR w S γ a v→VR (shut l w) S γ a v
 |[],w,_,_,h=>⟨h,rfl,fun _ _ h=>h⟩
 |r::l,w,hn,hl,h=>by
  obtain⟨h1,h2⟩:=List.nodup_cons.mp hn;have hr:=hl r List.mem_cons_self;have hbl:=AB hr.2;obtain⟨q1,q2,q3⟩:=zu l (w.putObj r (.deferred none)) h2 (fun r' hr'=>⟨(hl r' (List.mem_cons_of_mem _ hr')).1,by
   rw[World.putObj_heap_other (by rintro rfl;exact h1 hr')];exact(hl r' (List.mem_cons_of_mem _ hr')).2⟩) (hbl.wd h hr.1)
  exact⟨q1,q2.trans (by simp),fun a v hv=>q3 a v (hbl.vr hv)⟩
theorem yh {C:Ctx} {own:Nat→Bool} {n k:Nat} {fid:FuncId} {rs:List iU} {x:af} {ps:List PV} {r:PV} (h:Fn C fid own n k rs x) (hk:ps.length=k) (hb:Ej C own n 0 x (nY rs r) (jR 0 (ps.map .pv)) []):ah C fid ps r:=by
 obtain⟨fn,c,h1,h2,h3,h4,h5,h6,h7⟩:=h.ex;refine⟨h7,fun w S us hE hS hp=>?_⟩;have hW:Wd C w S (fun _=>none) [] w:=⟨⟨fun b k hk=>by simp at hk,fun b k hk=>by simp at hk,fun _ _=>rfl,fun b b' e e' h=>by cases h⟩,Below.refl _ _,hS,hE⟩
 have hpv:PW (VR w S (fun _=>none)) (ps.map .pv) us:=PW.iP hp;have hus:us.length≤fn.ntmps:=by rw[←hp.len];omega
 refine callsIn_wide.mp (callsIn_of_wp_marks (F:=Fence.wide) (n:=1) h1 h2 trivial (wpIn_mono (hb c h3 [] w S (fun _=>none) w _ hW (by rw[←h5];exact nV hpv hus) ⟨[],rfl,List.nodup_nil,fun _ h=>by cases h⟩) fun e a' w' hh=>?_));obtain⟨D,S',γ',f',μ',g1,g2,g3,⟨l,rfl,gn,gl⟩,g4⟩:=hh;have fin:nW μ' r (bM f' μ' rs)→LeavesInM Fence.wide 1 C.P fn a'.tmps (fun e w'=>∃v,e= .returned v∧Below w.heap.size w w'∧Is w' (fun g=>S g∨(w.heap.size≤g∧g<w'.heap.size)) r v) a'.defers .returning w':=by
  intro hret;unfold nW at hret;split at hret
  ·rename_i vc v e1;obtain⟨e2,e3⟩:=hret;rw[g3.defers];refine oq l w' gn (fun r hr=>(gl r hr).2.2) ?_;obtain⟨s1,s2,s3⟩:=zu l w' gn (fun r hr=>(gl r hr).2) g2;generalize shut l w'=w2 at *;obtain⟨u,hu,hv⟩:=kA (a:={a' with defers:=[]}) s1 (⟨g3.size,h.dz.symm,fun t=>s3 _ _ (g3.val t)⟩:FR C.D n w2 S' γ' f' {a' with defers:=[]}) h4 e1 e2;refine⟨u,hu,u,rfl,s1.below,(yZ s1 depth e3 hv).stay ⟨fun g hg=>?_,fun _ _=>rfl⟩⟩;rcases hg with hg|⟨b,e,he,rfl⟩
   ·rcases g1.more g hg with h|⟨b,e,h,-⟩|h
    ·exact .inl h
    ·cases h
    exact .inr ⟨h,s1.live g hg⟩
   rcases g1.cbs b e he with⟨b0,e0,h,-⟩|h
   ·cases h
   exact .inr ⟨h,s1.fY he⟩
  exact hret.elim
 cases e with
 |normal=>exact fin g4
 |ret=>exact fin g4
 |_=>exact g4.elim
end
section
variable {σ:Type}
theorem Site.OK.H6 {X:Site σ} (hX:X.OK) {own:Nat→Bool} {n p1:Nat} {xa xb:af} (hxa:comp X.C.P own n X.L.assign=some xa) (hxb:comp X.C.P own n X.L.body=some xb)
  (hps:X.L.params=#[p1]) (hp1:p1<n) (hn:X.L.tmps.size=n) {g0:AF} (hg0:AH X.q g0=true) (hgv:∀t,VR X.w1 X.S (cQ X.γ X.q) (get g0 t) ((⟨X.L.tmps,[]⟩:Act).eval (.tmp t)))
  {v1:PV} {k k':σ} {go:Bool} (hk:X.stop k=false) (hk':X.stop k'= !go)
  (hw:zp X.C X.l own n X.q xa (eb (fun f μ=>zp X.C X.l own n X.q xb (Cp (X.fo k') go) f μ) (fun _ _ _=>False)) (put g0 (some p1) (.pv v1)) (X.fo k))
  (μ:AM):Ch (X.xo hX) X.l [.pv v1] k μ (.pv (.bool go)) k' μ:=by
 intro w0' S' γ' w vs hW hp hN;have hW':Wd ((X.xo hX).C k) w0' S' γ' μ w:=hW;obtain⟨hNe,hM,hrec⟩:X.E k w:=hW'.E;obtain⟨hNe0,-,-⟩:X.E k w0':=hW'.env;have hs0:X.w1.heap.size≤w0'.heap.size:=hNe0.size;have hsw:w0'.heap.size≤w.heap.size:=hW'.below.size;obtain⟨u1,rfl⟩:∃u1,vs=[u1]:=by
  have:=hp.len;match vs,this with
  |[a],_=>exact⟨a,rfl⟩
 have hu1:=hp.at_ 0 _ _ rfl rfl;rw[hk]at hrec;have hy:=run_yield (P:=X.C.P) (args:=[u1].toArray) hrec (by simp[rI,hps]);refine⟨X.L.fn,_,X.L.assign,X.L.body,hy,roundIn_of_wpIn trivial ?_⟩;have hnF:∀g,S' g→¬EO X.γ X.q X.l g:=fun g hg hf=>(hN g hf).2 hg
 let SB:Nat→Prop:=fun g=>g<w.heap.size∧¬∃b e,b<X.q∧X.γ b=some e∧e.cb=g
 have hSB:∀g,S' g→SB g:=fun g hg=>⟨hW'.live g hg,fun ⟨b,e,h1,h2,h3⟩=>hnF g hg (.inr ⟨b,e,h1,h2,h3⟩)⟩
 have hSl:SB X.l:=⟨Nat.lt_of_lt_of_le hX.l1 hNe.size,fun ⟨b,e,h1,h2,h3⟩=>(hX.cb b e h1 h2).2.2.1 h3⟩
 have hMB:iO X.w0 SB (cQ X.γ X.q) (X.fo k) w:=uJ hM (hX.lit k) (fun b e _ h1 hs=>hs.2 ⟨b,e,(fl h1).1,(fl h1).2,rfl⟩) fun _ _ _ _=>rfl
 have hWB:Wd X.C X.w0 SB (cQ X.γ X.q) (X.fo k) w:=⟨hMB,hX.nj hNe,fun g hg=>hg.1,hX.env⟩
 have hF0:FR X.C.D n w SB (cQ X.γ X.q) g0 ⟨X.L.tmps,[]⟩:=⟨hn,hX.D.symm,fun t=>by
  have:=hgv t;rcases rH hg0 t with h|⟨b,gn,off,h,hb⟩
  ·rw[h];exact .any _
  rw[h]at this ⊢;generalize (⟨X.L.tmps,[]⟩:Act).eval (.tmp t)=u at this;cases this with
  |ptr _ _ _ _ e a q1 q2 q3 q4=>exact .ptr b gn off _ e a q1 q2 q3 q4⟩
 have up:∀{v:PV} {u:Value},VR w S' γ' (.pv v) u→VR w SB (cQ X.γ X.q) (.pv v) u:=fun h=>.pv _ _ ((cB h).up hSB)
 have hF:FR X.C.D n w SB (cQ X.γ X.q) (put g0 (some p1) (.pv v1)) ⟨(X.L.params.zip [u1].toArray).foldl (fun t (p,v)=>t.setIfInBounds p v) X.L.tmps,[]⟩:=by
  have:=hF0.put (up hu1) (d:=some p1) (by rintro t ⟨⟩;exact hp1);rw[hps];simpa [Act.put]using this
 refine wpIn_mono (hw _ hxa X.w0 SB _ w _ hWB hF) fun e a1 w2 hE=>?_
 obtain⟨S1,γ1,f1,μ1,hE1,hW1,hF1,hR1⟩:=hE;cases e with
 |normal=>?_
 |exit id=>exact hR1.elim
 |goto id=>exact hR1.elim
 |ret=>exact hR1.elim
 |panic c=>exact hR1.elim
 |outgrown=>exact hR1.elim
 have hl1:w2.heap[X.l]?=some (.loop (rI X.L false)):=(hE1.stay.blk _ hSl).trans hrec;refine⟨_,run_beginRound hl1 rfl,?_⟩;have hbl:=ni hl1;refine wpIn_mono (hR1 _ hxb X.w0 S1 γ1 _ a1 (hbl.wd hW1 hX.l0) (hbl.fr hF1)) fun e a2 w3 hE=>?_
 obtain⟨S2,γ2,f2,μ2,hE2,hW2,hF2,hR2⟩:=hE;have hl2':(w2.putObj X.l (.loop (busy X.L))).heap[X.l]?=some (.loop (busy X.L)):=World.putObj_heap_same (Array.getElem?_eq_some_iff.1 hl1).1;have hl2:w3.heap[X.l]?=some (.loop (busy X.L)):=(hE2.stay.blk _ (hE1.stay.set _ hSl)).trans hl2';have hbl2:=ni hl2;have hbusy:∀j:Option Code,({busy X.L with state:=if j.isNone then .ready else .done,pending:=j}:Loop)={X.L with state:=if j.isNone then .ready else .done,pending:=j}:=fun j=>rfl
 have fin:∀(jump:Option Code),({X.L with state:=if jump.isNone then .ready else .done,pending:=jump}:Loop)=rI X.L (X.stop k')→(∃junk,μ2=X.fo k'++junk)→jump.isNone=go →
   ∃v w4,(Instr.endRound X.l jump).run X.C.P w3= .ok v w4∧∃v' w0'' S'' γ'',Ending.returned v=Ending.returned v'∧uF (X.xo hX).Fo w0' w0''∧ig w S' γ' w4 S'' γ''∧Wd ((X.xo hX).C k') w0'' S'' γ'' μ w4∧NS (X.xo hX).Fo w0'' S''∧VR w4 S'' γ'' (.pv (.bool go)) v':=by
  rintro jump hj ⟨junk,rfl⟩ hgo;have hr:=run_endRound (P:=X.C.P) jump hl2;rw[hbusy,hj]at hr;refine⟨_,_,hr,?_⟩;generalize hw4:w3.putObj X.l (.loop (rI X.L (X.stop k')))=w4;have hoth:∀g,g≠X.l→w4.heap[g]?=w3.heap[g]?:=fun g hg=>by rw[←hw4];exact World.putObj_heap_other hg
  have hl4:w4.heap[X.l]?=some (.loop (rI X.L (X.stop k'))):=by rw[←hw4];exact World.putObj_heap_same (Array.getElem?_eq_some_iff.1 hl2).1
  have hsz:w4.heap.size=w3.heap.size:=by rw[←hw4];simp
  have hos:w4.os=w3.os∧w4.tape=w3.tape∧w4.output=w3.output:=by rw[←hw4];exact⟨rfl,rfl,rfl⟩
  have hsz2:w.heap.size≤w3.heap.size:=Nat.le_trans hE1.size (by have:=hE2.size;rwa [World.putObj_size]at this);have hblk:∀g,g<w.heap.size→¬EO X.γ X.q X.l g→w4.heap[g]?=w.heap[g]?:=fun g hg hf=>by
   have hgl:g≠X.l:=fun h=>hf (.inl h)
   have hs:SB g:=⟨hg,fun ⟨b,e,h1,h2,h3⟩=>hf (.inr ⟨b,e,h1,h2,h3⟩)⟩
   rw[hoth g hgl,hE2.stay.blk g (hE1.stay.set g hs),World.putObj_heap_other hgl,hE1.stay.blk g hs]
  have hb3:=hX.nj hNe;have hd3:=hW2.below;let w0'':World:={w4 with heap:=w4.heap.extract 0 w0'.heap.size}
  have hs00:w0''.heap.size=w0'.heap.size:=by
   show(w4.heap.extract 0 w0'.heap.size).size=_;rw[Array.size_extract];omega
  have h00:∀g,g<w0'.heap.size→w0''.heap[g]?=w4.heap[g]?:=fun g hg=>by
   show(w4.heap.extract 0 w0'.heap.size)[g]?=_;rw[Array.getElem?_extract_of_lt (by omega)];simp only[Nat.zero_add];rw[Array.getElem?_eq_getElem]
  have hM2:iO X.w0 X.S (cQ X.γ X.q) (X.fo k') w4:=by
   refine⟨fun b kb hkb hz=>?_,fun b kb hkb hz=>absurd hz (hX.lit k' kb (List.mem_of_getElem? hkb)).sz,fun b hb=>by
    have:=hX.len k';unfold cQ;rw[if_neg (by omega)],fun b b' e e' h1 h2 h3=>hM.inj b b' e e' h1 h2 h3⟩
   have hbq:b<X.q:=by rw[←hX.len k'];exact(List.getElem?_eq_some_iff.mp hkb).1
   have hL:=hX.lit k' kb (List.mem_of_getElem? hkb);obtain⟨e2,cs,g1,g2,g3,g4,g5,g6,g7,g8,g9⟩:=hW2.mem.blk b kb (by rw[List.getElem?_append_left (by rw[hX.len k'];exact hbq)];exact hkb) hz;have hk0:b<(X.fo k).length:=by rw[hX.len k];exact hbq
   obtain⟨e,q1,q2,-,-,q5,-⟩:=hM.Aa (List.getElem?_eq_getElem hk0);have hL0:=hX.lit k _ (List.getElem_mem hk0);obtain⟨e1,r1,r2,r3⟩:=hE1.gh b e hbq q1;obtain⟨e2',s1,s2,s3⟩:=hE2.gh b e1 hbq r1;rw[g1]at s1;injection s1 with s1
   subst s1;have hz1:e.gen=0:=by rw[q2];exact hL0.gen
   have hz2:e2.gen=0:=by rw[g2];exact hL.gen
   obtain rfl:e1=e:=r3 (by omega);obtain rfl:e2=e1:=s3 (by omega);have hcb:=hX.cb b e2 hbq (fl q1).2;refine⟨e2,cs,q1,g2,g3,g4.congr (hoth _ hcb.2.2.1) rfl id,g5,g6,fun i a ha=>?_,q5,fun _=>hcb.2.2.2⟩;obtain⟨v,t1,t2,t3⟩:=g7 i a ha;exact⟨v,t1,zr (hL.cells a (List.mem_of_getElem? ha)) t2,t3⟩
  have hNe4:H5 (EO X.γ X.q X.l) X.w1 w4:=⟨by rw[hos.1,hd3.os,←hX.below.os],by rw[hos.2.1,hd3.tape,←hX.below.tape],by rw[hos.2.2,hd3.output,←hX.below.output],by have:=hNe.size;omega,fun g hg hf=>(hblk g (Nat.lt_of_lt_of_le hg hNe.size) hf).trans (hNe.block g hg hf)⟩
  have hE0:X.E k' w0'':=⟨⟨hNe4.os,hNe4.tape,hNe4.output,by rw[hs00];exact hs0,fun g hg hf=>(h00 g (by omega)).trans (hNe4.block g hg hf)⟩,
   uJ hM2 (hX.lit k') (fun b e hb h1=>(hX.cb b e (fl h1).1 (fl h1).2).2.2.2) fun b e hb h1=>h00 _ (by have:=(hX.cb b e (fl h1).1 (fl h1).2).2.1;omega),(h00 _ (by have:=hX.l1;omega)).trans hl4⟩
  have hExt:ig w S' γ' w4 S' γ':=⟨⟨fun _ h=>h,fun g hg=>hblk g (hW'.live g hg) (hnF g hg)⟩,fun _ e h=>⟨e,h,Nat.le_refl _,fun _=>rfl⟩,fun _ h=>.inl h,fun b e h=>.inl ⟨b,e,h,rfl⟩,by omega⟩
  have hb':=hW'.below;refine⟨_,w0'',S',γ',rfl,⟨?_,?_,?_,hs00,fun g hf=>?_⟩,hExt,⟨?_,?_,fun g hg=>by have:=hW'.live g hg;omega,hE0⟩,fun g hg=>?_,?_⟩
  ·exact hNe4.os.trans hNe0.os.symm
  ·exact hNe4.tape.trans hNe0.tape.symm
  ·exact hNe4.output.trans hNe0.output.symm
  ·by_cases hg:g<w0'.heap.size
   ·rw[h00 g hg,hblk g (by omega) hf,hb'.block g hg]
   rw[Array.getElem?_eq_none (by omega),Array.getElem?_eq_none (by omega)]
  ·have hm:iO w0' S' γ' μ w4:=hW'.mem.stay hExt (fun b e he hlt=>hblk _ hlt fun hf=>by
    have h1:=(hX.Co hf).2;have hb:b<μ.length:=by
     apply Classical.byContradiction;intro hnb;rw[hW'.mem.none b (by omega)]at he;cases he
    obtain⟨e0,q1,-,-,-,q5,-⟩:=hW'.mem.Aa (List.getElem?_eq_getElem hb);rw[he]at q1;injection q1 with q1
    subst q1;omega) fun b k e _ _ _ _ h=>h
   exact⟨fun b k hk hz=>by rw[hs00];exact hm.blk b k hk hz,fun b k hk hz=>by rw[hs00];exact hm.mp b k hk hz,hm.none,hm.inj⟩
  ·exact⟨rfl,rfl,rfl,by show(w4.heap.extract 0 w0'.heap.size).size≤_;rw[Array.size_extract];omega,fun g hg=>(h00 g (by omega)).symm⟩
  ·rw[hs00];exact hN g hg
  rw[hgo];exact .pv _ _ (.bool _)
 cases e with
 |normal =>
  obtain⟨hgo,hj⟩:=hR2;subst hgo;obtain⟨v,w4,h1,h2⟩:=fin none (by rw[hk'];rfl) hj rfl;exact⟨v,w4,h1,h2⟩
 |ret =>
  obtain⟨hgo,hj⟩:=hR2;subst hgo;obtain⟨v,w4,h1,h2⟩:=fin (some .ret) (by rw[hk'];rfl) hj rfl;exact⟨v,w4,h1,h2⟩
 |exit id=>exact hR2.elim
 |goto id=>exact hR2.elim
 |panic c=>exact hR2.elim
 |outgrown=>exact hR2.elim
theorem Cs {w:World} {S:Nat→Prop} {γ:Gh} {gid:FuncId} {bt bs:Nat} {e e':sO} {v:Value} (h1:γ bt=some e) (h2:e.gen=0) (h1':γ bs=some e') (h2':e'.gen=0) (h:VR w S γ (.fn gid [.ptr bt 0 0,.ptr bs 0 0]) v):v= .func (.func gid) #[] #[.pointer (some ⟨e.cb,0,none⟩),.pointer (some ⟨e'.cb,0,none⟩)]:=by
 cases h with
 |fn _ _ us hl hat =>
  match us,hl,hat with
  |[u,u'],_,hat =>
   have hu:=hat 0 _ _ rfl rfl;have hu':=hat 1 _ _ rfl rfl;cases hu with
   |ptr _ _ _ _ e2 a2 g1 g2 g3 g4 =>
    cases hu' with
    |ptr _ _ _ _ e3 a3 g1' g2' g3' g4' =>
     rw[h1]at g1;injection g1 with g1
     subst g1;rw[h1']at g1';injection g1' with g1'
     subst g1';rw[g4 h2.symm,g4' h2'.symm]
  |[],hl,_=>cases hl
  |[_],hl,_=>simp at hl
  |_::_::_::_,hl,_=>simp at hl
theorem yi {σ : Type} {C : Ctx} {own : Nat → Bool} {n m q bt bs p1 : Nat} {g : cn} {xa xb : af} {f g0 : AF} {k0 k' : σ} {fo : σ → AM} {stop : σ → Bool} {junk : AM} {gid : FuncId} {cells cells2 : List PV} {kb kc : dI} {rv : AV} {R : Exit → AF → AM → Prop}
    (hgv : ev f g = .fn gid [.ptr bt 0 0, .ptr bs 0 0]) (hbt : q ≤ bt) (hbs : q ≤ bs) (hts : (fo k0 ++ junk)[bs]? = some kc) (hkb2 : kc.cells = cells2.map .pv) (hkg2 : kc.gen = 0) (hks2 : kc.sz ≠ 0) (htb : (fo k0 ++ junk)[bt]? = some kb) (hkb : kb.cells = cells.map .pv) (hkg : kb.gen = 0) (hks : kb.sz ≠ 0) (hcal : eU C.P gid = true)
    (hlen : ∀ k, (fo k).length = q) (hlit : ∀ k b, b ∈ fo k → Cn b) (hs0 : stop k0 = false) (hg0 : AH q g0 = true) (hsub : Sub g0 f) (hm : m ≤ q) (hp1 : p1 < n)
    (hcall : ∀ (w0 w1 : World) (S : Nat → Prop) (γ : Gh) (l : Nat) (L : Loop) (hX : (Site.mk { C with D := [] } w0 w1 S γ q l fo L stop).OK),
       (∀ v1 k k1 go μ, stop k = false → stop k1 = !go →
          zp { C with D := [] } l own n q xa (eb (fun f μ => zp { C with D := [] } l own n q xb (Cp (fo k1) go) f μ) (fun _ _ _ => False)) (put g0 (some p1) (.pv v1)) (fo k) → Ch (Site.xo _ hX) l [.pv v1] k μ (.pv (.bool go)) k1 μ) →
       KJ (Site.xo _ hX) gid [.pv (.val (.func (.yield l) #[] #[])), .iptr cells 0, .iptr cells2 0] k0 [] rv k' [])
    (hN : stop k' = false → R .normal g0 (fo k')) (hS : stop k' = true → R .ret g0 (fo k')) : Ej C own n m (.range g [p1] xa xb) R f (fo k0 ++ junk) := by
  intro c hc D w0 S γ w a hW hF hM
  obtain ⟨qo, qs, c1, c2, rfl, h0, h1, h2, h3⟩ := rG hc
  have hv := aO (w := w) (S := S) (γ := γ) (f := f) (a := a) h0 fun t _ => hF.val t
  rw [hgv] at hv
  obtain ⟨e, cs, t1, t2, t3, ⟨fz, t4, -⟩, t5, t6, t7, t8, -⟩ := hW.mem.blk bt kb htb hks
  have hcb : e.cb < w.heap.size := (Array.getElem?_eq_some_iff.mp t4).1
  obtain ⟨e', cs', t1', t2', t3', ⟨fz', t4', -⟩, t5', t6', t7', t8', -⟩ := hW.mem.blk bs kc hts hks2
  have hcb' : e'.cb < w.heap.size := (Array.getElem?_eq_some_iff.mp t4').1
  have hfn := Cs t1 (t2.trans hkg) t1' (t2'.trans hkg2) hv
  have hqs : qs = #[p1] := by rw [← Array.toList_inj, h1]
  refine wpIn_rangeFunc fun fn _ => ?_
  let L : Loop := { state := .ready, pending := none, fn, tmps := a.tmps, params := qs, assign := c1, body := c2, defers := w.heap.size }
  let w1 : World := (w.alloc (.deferred (some []))).alloc (.loop L)
  have hsz : w1.heap.size = w.heap.size + 2 := by simp [w1, World.size_alloc]
  have hl1 : w1.heap[w.heap.size + 1]? = some (.loop L) := by
    have := World.alloc_heap_new (w.alloc (.deferred (some []))) (.loop L)
    rwa [World.size_alloc] at this
  have hlow : ∀ g, g < w.heap.size → w1.heap[g]? = w.heap[g]? := fun g hg => by
    show ((w.heap.push _).push _)[g]? = _
    rw [Array.getElem?_push_lt (by simp; omega), Array.getElem_push_lt hg, Array.getElem?_eq_getElem hg]
  have hr1 : w1.heap[w.heap.size]? = some (.deferred (some [])) := by
    show ((w.heap.push _).push _)[w.heap.size]? = _
    rw [Array.getElem?_push_lt (by simp), Array.getElem_push_eq]
  let SX : Nat → Prop := fun g => S g ∨ g = e.cb ∨ g = e'.cb ∨ g = w.heap.size
  have hbsz := hW.below.size
  have hX : (Site.mk { C with D := [] } w0 w1 SX γ q (w.heap.size + 1) fo L stop).OK := by
    refine ⟨rfl, hW.env, hW.below.trans ⟨rfl, rfl, rfl, by show w.heap.size ≤ w1.heap.size; omega, fun g hg => hlow g (by omega)⟩, fun g hg => ?_, by show w0.heap.size ≤ w.heap.size + 1; omega, by show w.heap.size + 1 < w1.heap.size; omega, fun b e2 hb he => ?_, hlen, hlit⟩
    · show g < w1.heap.size
      rcases hg with h | h | h | h
      · have := hW.live g h; omega
      · omega
      · omega
      omega
    have hb : b < q := hb
    have he : γ b = some e2 := he
    have hbl : b < (fo k0).length := by rw [hlen]; exact hb
    have hk : (fo k0 ++ junk)[b]? = some (fo k0)[b] := by rw [List.getElem?_append_left hbl]; exact List.getElem?_eq_getElem hbl
    obtain ⟨e3, q1, -, -, q4, q5, q6⟩ := hW.mem.Aa hk
    rw [he] at q1
    injection q1 with q1
    subst q1
    refine ⟨q5, by show e2.cb < w1.heap.size; omega, by show e2.cb ≠ w.heap.size + 1; omega, ?_⟩
    rintro (h | h | h | h)
    · exact q6 (hlit k0 _ (List.getElem_mem hbl)).frozen h
    · have := hW.mem.inj b bt e2 e he t1 h
      omega
    · have := hW.mem.inj b bs e2 e' he t1' h
      omega
    omega
  have hM0 : iO w0 S (cQ γ q) (fo k0) w := by
    have := (Wd.drop hW (AJ (hlit k0))).mem
    rwa [hlen] at this
  have hnS : ∀ b e, b < (fo k0).length → cQ γ q b = some e → ¬ SX e.cb := fun b e hb he => (hX.cb b e (fl he).1 (fl he).2).2.2.2
  have hE1 : Site.E (Site.mk { C with D := [] } w0 w1 SX γ q (w.heap.size + 1) fo L stop) k0 w1 :=
    ⟨⟨rfl, rfl, rfl, Nat.le_refl _, fun _ _ _ => rfl⟩, uJ hM0 (hlit k0) hnS (fun b e hb he => hlow _ (by
      have hk : (fo k0)[b]? = some (fo k0)[b] := List.getElem?_eq_getElem hb
      obtain ⟨e3, q1, -, -, q4, -, -⟩ := hM0.Aa hk
      rw [he] at q1
      injection q1 with q1
      subst q1
      exact q4)), by rw [show rI L (stop k0) = L by rw [hs0]; rfl]; exact hl1⟩
  have hY := hcall w0 w1 SX γ (w.heap.size + 1) L hX fun v1 k k1 go μ hk hk1 hw => hX.H6 (own := own) (n := n) h2 h3 hqs hp1 hF.size hg0 (fun t => wH (a := ⟨a.tmps, []⟩) hg0 hsub hF.val t) hk hk1 hw μ
  have hcalls := hY.2 w1 SX (fun _ => none) w1 [.func (.yield (w.heap.size + 1)) #[] #[], .pointer (some ⟨e.cb, 0, none⟩), .pointer (some ⟨e'.cb, 0, none⟩)]
    ⟨⟨fun b k hk => by simp at hk, fun b k hk => by simp at hk, fun _ _ => rfl, fun b b' e e' h => by cases h⟩, Below.refl _ _, hX.live, hE1⟩
    ⟨rfl, fun i x v hx hv => by
      match i, hx, hv with
      | 0, hx, hv =>
        injection hx with hx; injection hv with hv
        subst hx hv
        exact .pv _ _ (.val _)
      | 1, hx, hv =>
        injection hx with hx; injection hv with hv
        subst hx hv
        have hat : ∀ (i : Nat) p, cells[i]? = some p → ∃ v, cs[i]? = some v ∧ Is w S p v := fun i p hp => by
          obtain ⟨v, g1, g2, -⟩ := t7 i (.pv p) (by rw [hkb, List.getElem?_map, hp]; rfl)
          exact ⟨v, g1, cB g2⟩
        refine .iptr cells 0 e.cb 0 (fun i => cs.getD i undef) (.inr (.inl rfl)) (fun i p hp => ?_) fun i p hp => ?_
        · obtain ⟨v, g1, g2⟩ := hat i p hp
          have : w1.heap[e.cb]? = some (.cells cs kb.elem fz) := (hlow _ hcb).trans t4
          simp [World.cell?, this, g1]
        obtain ⟨v, g1, g2⟩ := hat i p hp
        rw [show cs.getD i undef = v by simp [Array.getD_eq_getD_getElem?, g1]]
        exact g2.stay ⟨fun _ h => .inl h, fun g hg => hlow g (hW.live g hg)⟩
      | 2, hx, hv =>
        injection hx with hx; injection hv with hv
        subst hx hv
        have hat : ∀ (i : Nat) p, cells2[i]? = some p → ∃ v, cs'[i]? = some v ∧ Is w S p v := fun i p hp => by
          obtain ⟨v, g1, g2, -⟩ := t7' i (.pv p) (by rw [hkb2, List.getElem?_map, hp]; rfl)
          exact ⟨v, g1, cB g2⟩
        refine .iptr cells2 0 e'.cb 0 (fun i => cs'.getD i undef) (.inr (.inr (.inl rfl))) (fun i p hp => ?_) fun i p hp => ?_
        · obtain ⟨v, g1, g2⟩ := hat i p hp
          have : w1.heap[e'.cb]? = some (.cells cs' kc.elem fz') := (hlow _ hcb').trans t4'
          simp [World.cell?, this, g1]
        obtain ⟨v, g1, g2⟩ := hat i p hp
        rw [show cs'.getD i undef = v by simp [Array.getD_eq_getD_getElem?, g1]]
        exact g2.stay ⟨fun _ h => .inl h, fun g hg => hlow g (hW.live g hg)⟩
      | _ + 3, hx, _ => simp at hx⟩
    (fun g hg => by
      have h1 : EO γ q (w.heap.size + 1) g := hg
      refine ⟨(hX.Co hg).2, fun hs => ?_⟩
      rcases h1 with rfl | ⟨b, e2, hb, he, rfl⟩
      · rcases hs with h | h | h | h
        · have := hW.live _ h; omega
        · omega
        · omega
        omega
      exact (hX.cb b e2 hb he).2.2.2 hs)
  refine ⟨w.heap.size + 1, [mark w.heap.size], w1, { target := .fn (.func gid) #[.pointer (some ⟨e.cb, 0, none⟩), .pointer (some ⟨e'.cb, 0, none⟩)], args := #[.func (.yield (w.heap.size + 1)) #[] #[]] }, w1, gid, _, w1, run_enterLoop_outer .., ?_, fun _ _ => trivial, ?_, (fun h => by cases h), callsIn_wide.mpr (hcalls.mono fun x w' hh => ?_)⟩
  · simp [rangeCall, resolve, Act.eval] at hfn ⊢
    simp [hfn, Deferred.ofValue]
  · have := nQ (C := C) (w := w1) hcal #[.func (.yield (w.heap.size + 1)) #[] #[], .pointer (some ⟨e.cb, 0, none⟩), .pointer (some ⟨e'.cb, 0, none⟩)]
    simpa [invoke] using this
  obtain ⟨v, w0', S', γ', rfl, hO, hE, hW', hN', hvr⟩ := hh
  obtain ⟨hNe, hM', hrec⟩ : Site.E (Site.mk { C with D := [] } w0 w1 SX γ q (w.heap.size + 1) fo L stop) k' w' := hW'.E
  have hrec : w'.heap[w.heap.size + 1]? = some (.loop (rI L (stop k'))) := hrec
  have hbl := ni hrec
  have hnb : (rI L (stop k')).state ≠ .busy := by
    cases stop k' <;> (simp [rI])
  have hend := run_endLoop (P := C.P) hrec hnb
  generalize hw4 : w'.putObj (w.heap.size + 1) (.loop { rI L (stop k') with state := .exhausted }) = w4 at hend
  have hoth : ∀ g, g ≠ w.heap.size + 1 → w4.heap[g]? = w'.heap[g]? := fun g hg => by rw [← hw4]; exact World.putObj_heap_other hg
  have hsz1 : w1.heap.size ≤ w'.heap.size := hNe.size
  have hsz4 : w4.heap.size = w'.heap.size := by rw [← hw4]; simp
  have hSXl : ∀ g, SX g → g < w1.heap.size ∧ g ≠ w.heap.size + 1 := fun g hg => ⟨hX.live g hg, by
    rcases hg with h | h | h | h
    · have := hW.live _ h; omega
    · omega
    · omega
    omega⟩
  have hnF : ∀ g, SX g → ¬ EO γ q (w.heap.size + 1) g := fun g hg hf => by
    rcases hf with rfl | ⟨b, e2, hb, he, rfl⟩
    · exact (hSXl _ hg).2 rfl
    exact (hX.cb b e2 hb he).2.2.2 hg
  have h41 : ∀ g, SX g → w4.heap[g]? = w1.heap[g]? := fun g hg => (hoth g (hSXl g hg).2).trans (hNe.block g (hSXl g hg).1 (hnF g hg))
  have hE4 : fH m w S γ w4 SX (cQ γ q) := by
    refine ⟨⟨fun g h => .inl h, fun g hg => (h41 g (.inl hg)).trans (hlow g (hW.live g hg))⟩, fun b e2 hb he => ⟨e2, by rw [wG (by omega)]; exact he, Nat.le_refl _, fun _ => rfl⟩, fun g hg => ?_, fun b e2 he => .inl ⟨b, e2, (fl he).2, rfl⟩, by omega, fun g hg hn => ?_⟩
    rcases hg with h | rfl | rfl | rfl
    · exact .inl h
    · exact .inr (.inl ⟨bt, e, t1, rfl⟩)
    · exact .inr (.inl ⟨bs, e', t1', rfl⟩)
    · exact .inr (.inr (Nat.le_refl _))
    have h1 : g ≠ w.heap.size + 1 := by omega
    rw [hoth g h1, hNe.block g (by show g < w1.heap.size; omega) fun hf => ?_]
    · exact hlow g hg
    rcases hf with rfl | ⟨b, e2, _, he, hh⟩
    · exact h1 rfl
    exact hn b e2 he hh
  have hWd : Wd C w0 SX (cQ γ q) (fo k') w4 := by
    rw [← hw4]
    exact hbl.wd ⟨hM', hX.nj hNe, fun g hg => by have := (hSXl g hg).1; omega, hW.env⟩ (by omega)
  have hFR : FR (mark w.heap.size :: D) n w4 SX (cQ γ q) g0 { a with defers := [mark w.heap.size] ++ a.defers } := ⟨hF.size, by rw [← hF.defers]; rfl, fun t => wH (a := a) hg0 hsub hF.val t⟩
  have hMk : Mk w0 SX w4 (mark w.heap.size :: D) := by
    obtain ⟨l, rfl, hnd, hl⟩ := hM
    refine ⟨w.heap.size :: l, rfl, List.nodup_cons.mpr ⟨fun h => ?_, hnd⟩, fun r hr => ?_⟩
    · have := hW.live _ (hl _ h).1
      omega
    rcases List.mem_cons.mp hr with rfl | hr
    · exact ⟨.inr (.inr (.inr rfl)), hbsz, (h41 _ (.inr (.inr (.inr rfl)))).trans hr1⟩
    obtain ⟨q1, q2, q3⟩ := hl r hr
    exact ⟨.inl q1, q2, (h41 r (.inl q1)).trans ((hlow r (hW.live r q1)).trans q3)⟩
  cases hst : stop k' with
  | false =>
    refine ⟨_, _, hend, ?_⟩
    rw [hst]
    exact ⟨_, SX, _, g0, _, hE4, hWd, hFR, hMk, hN hst⟩
  | true =>
    refine ⟨_, _, hend, ?_⟩
    rw [hst]
    exact wpIn_ret ⟨_, SX, _, g0, _, hE4, hWd, hFR, hMk, hS hst⟩
end
end Pur
end Go.Proofs.YtfgcmogbdcifeaaGreatDoor
