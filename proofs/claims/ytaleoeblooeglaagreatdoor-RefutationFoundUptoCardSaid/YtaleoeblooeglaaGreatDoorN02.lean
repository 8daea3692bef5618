/-
  RefutationFound: the search for a counterexample ends, and what it names is one
-/
import Derived.Test.YtaleoeblooeglaaGreatDoorN01
import Derived.WalkSmall
import Derived.RangeFuncSeq
import Derived.OrdersIn
import Derived.RangeFuncRecord
import Derived.RangeFuncCalls
set_option maxRecDepth 10000
set_option linter.unusedSimpArgs false
set_option linter.unusedVariables false
namespace Go.Proofs.YtaleoeblooeglaaGreatDoor
namespace Pur
open Go.RowKit
section
def my {α:Type}:Nat→List α→List α
 |0,a::b::r=>b::a::r
 |p+1,a::r=>a::my p r
 |_,l=>l
def sg (p j:Nat):Nat:=bif Nat.beq j p then p+1 else bif Nat.beq j (p+1) then p else j
theorem tM (p:Nat):sg p p=p+1:=by simp[sg]
theorem ui {i j:Nat} (h:i≠j):Nat.beq i j=false:=by
 cases hb:Nat.beq i j with
 |false=>rfl
 |true=>exact absurd (Nat.eq_of_beq_eq_true hb) h
theorem tN (p:Nat):sg p (p+1)=p:=by
 have:Nat.beq (p+1) p=false:=ui (by omega);simp[sg,this]
theorem pb {p j:Nat} (h1:j≠p) (h2:j≠p+1):sg p j=j:=by
 have e1:Nat.beq j p=false:=ui h1;have e2:Nat.beq j (p+1)=false:=ui h2;simp[sg,e1,e2]
theorem jy (p j:Nat):sg p (sg p j)=j:=by
 by_cases h1:j=p
 ·subst h1;rw[tM,tN]
 by_cases h2:j=p+1
 ·subst h2;rw[tN,tM]
 rw[pb h1 h2,pb h1 h2]
theorem si {p j n:Nat} (hp:p+1<n) (hj:j<n):sg p j<n:=by
 by_cases h1:j=p
 ·subst h1;rw[tM];exact hp
 by_cases h2:j=p+1
 ·subst h2;rw[tN];omega
 rw[pb h1 h2];exact hj
theorem Al {p i j:Nat} (h:i<j) (hn:¬(i=p∧j=p+1)):sg p i<sg p j:=by
 by_cases h1:i=p
 ·subst h1;rw[tM,pb (by omega) (by omega)];omega
 by_cases h2:i=p+1
 ·subst h2;rw[tN,pb (by omega) (by omega)];omega
 rw[pb h1 h2];by_cases h3:j=p
 ·subst h3;rw[tM];omega
 by_cases h4:j=p+1
 ·subst h4;rw[tN];omega
 rw[pb h3 h4];exact h
theorem qc {α:Type}:∀(p:Nat) (l:List α),(my p l).length=l.length
 |0,[]=>rfl
 |0,[_]=>rfl
 |0,_::_::_=>rfl
 |_+1,[]=>rfl
 |p+1,a::r=>by rw[my,List.length_cons,qc p r,List.length_cons]
theorem E1 (p j:Nat):sg (p+1) (j+1)=sg p j+1:=by
 by_cases h1:j=p
 ·subst h1;rw[tM,tM]
 by_cases h2:j=p+1
 ·subst h2;rw[tN,tN]
 rw[pb h1 h2,pb (by omega) (by omega)]
theorem pc {α:Type}:∀(p:Nat) (l:List α) (j:Nat),p+1<l.length→(my p l)[j]?=l[sg p j]?
 |0,a::b::r,0,_=>rfl
 |0,a::b::r,1,_=>rfl
 |0,a::b::r,j+2,_=>by rw[pb (by omega) (by omega)];rfl
 |p+1,a::r,0,_=>by rw[pb (by omega) (by omega)];rfl
 |p+1,a::r,j+1,h=>by
  rw[my,E1,List.getElem?_cons_succ,List.getElem?_cons_succ];exact pc p r j (by simpa using h)
 |0,[],_,h=>by simp at h
 |0,[_],_,h=>by simp at h
 |_+1,[],_,h=>by simp at h
def za (p:Nat) (al:List dc):Bool:=Nat.blt (p+1) al.length&&al.all fun ao=>match ao.guard with
 |none=>true
 |some (t,_)=>!((al.getD p default).dst==some t)&& !((al.getD (p+1) default).dst==some t)
def sj (p:Nat):List (Nat×Nat)→List (Nat×Nat)
 |[]=>[]
 |(u,v)::r=>bif Nat.beq u p&&Nat.beq v (p+1) then sj p r else (u,v)::sj p r
def sk (p:Nat):List (Nat×Nat)→List (Nat×Nat)
 |[]=>[]
 |(u,v)::r=>bif Nat.beq u p&&Nat.beq v (p+1) then sk p r else (sg p u,sg p v)::sk p r
theorem uj {p u v:Nat} (hn:¬(u=p∧v=p+1)):∀{l:List (Nat×Nat)},(u,v)∈l→(u,v)∈sj p l
 |(x,y)::r,h=>by
  rw[sj];cases h with
  |head =>
   have:(Nat.beq u p&&Nat.beq v (p+1))=false:=by
    cases hc:(Nat.beq u p&&Nat.beq v (p+1)) with
    |false=>rfl
    |true =>
     rw[Bool.and_eq_true]at hc;exact absurd ⟨Nat.eq_of_beq_eq_true hc.1,Nat.eq_of_beq_eq_true hc.2⟩ hn
   rw[this,cond_false];exact List.mem_cons_self
  |tail _ h =>
   have:=uj hn h;cases hc:(Nat.beq x p&&Nat.beq y (p+1)) with
   |true=>exact this
   |false=>exact List.mem_cons_of_mem _ this
theorem uk {p u v:Nat} (hn:¬(u=p∧v=p+1)):∀{l:List (Nat×Nat)},(u,v)∈l→(sg p u,sg p v)∈sk p l
 |(x,y)::r,h=>by
  rw[sk];cases h with
  |head =>
   have:(Nat.beq u p&&Nat.beq v (p+1))=false:=by
    cases hc:(Nat.beq u p&&Nat.beq v (p+1)) with
    |false=>rfl
    |true =>
     rw[Bool.and_eq_true]at hc;exact absurd ⟨Nat.eq_of_beq_eq_true hc.1,Nat.eq_of_beq_eq_true hc.2⟩ hn
   rw[this,cond_false];exact List.mem_cons_self
  |tail _ h =>
   have:=uk hn h;cases hc:(Nat.beq x p&&Nat.beq y (p+1)) with
   |true=>exact this
   |false=>exact List.mem_cons_of_mem _ this
def Path (ops:Array Oper):List Nat→Array Bool→Prop
 |[],l=>Region.ready .any ops l=[]
 |i::r,l=>i∈Region.ready .any ops l∧Path ops r (l.setIfInBounds i true)
section
variable {C:Ctx} {w0 w:World} {S:Nat→Prop} {γ:Gh} {μ:AM} {f:AF} {a:Act} {ops:Array Oper}
theorem oq {listed:Array Bool} {q:Nat} (h1:q<listed.size) (j:Nat):(listed.setIfInBounds q true).getD j true=(j==q||listed.getD j true):=by
 by_cases hjq:j=q
 ·subst hjq;simp[Array.getD,h1]
 rw[show(j==q)=false by simpa using hjq,Bool.false_or];simp only[Array.getD_eq_getD_getElem?];rw[Array.getElem?_setIfInBounds_ne (Ne.symm hjq)]
theorem w8:∀(fuel t:Nat) (listed:Array Bool),listed.size=ops.size→(List.range ops.size).countP (fun i=>!listed.getD i true)≤fuel→Path ops (Region.linearise.go .any ops fuel t listed []) listed
 |0,t,listed,hsz,hc=>by
  show Region.ready .any ops listed=[]
  cases hr:Region.ready .any ops listed with
  |nil=>rfl
  |cons i r =>
   have hi:i∈Region.ready .any ops listed:=by rw[hr];exact List.mem_cons_self
   obtain⟨h1,h2,-⟩:=dw.mp hi;have:0<(List.range ops.size).countP (fun i=>!listed.getD i true):=List.countP_pos_iff.mpr ⟨i,List.mem_range.mpr h1,by simp[h2]⟩;omega
 |fuel+1,t,listed,hsz,hc=>by
  simp only[Region.linearise.go];change Path ops (match (Region.ready .any ops listed)[t % (Region.ready .any ops listed).length]? with
   |some i=>Region.linearise.go .any ops fuel (t / (Region.ready .any ops listed).length) (listed.setIfInBounds i true) [i]
   |none=>[].reverse) listed
  cases hi:(Region.ready .any ops listed)[t % (Region.ready .any ops listed).length]? with
  |none =>
   show Region.ready .any ops listed=[]
   cases hr:Region.ready .any ops listed with
   |nil=>rfl
   |cons x xs =>
    rw[hr]at hi;have hlt:t % (x::xs).length<(x::xs).length:=Nat.mod_lt _ (by simp);simp at hi;simp at hlt;omega
  |some i =>
   simp only[];rw[linearise_go_acc,List.reverse_singleton,List.singleton_append];have hm:=List.mem_of_getElem? hi;obtain⟨h1,h2,-⟩:=dw.mp hm;refine⟨hm,w8 fuel _ _ (by simp[hsz]) ?_⟩;have:=jv (p:=fun i=>!listed.getD i true) (q:=fun j=>!(listed.setIfInBounds i true).getD j true) (List.range ops.size) (List.mem_range.mpr h1) (by simp[h2]) (by rw[oq (by omega)];simp) (fun j hj=>by
    rw[oq (by omega)]at hj;simp only[Bool.not_or,Bool.and_eq_true]at hj;exact hj.2)
   omega
def Good (n:Nat) (B:Nat→Nat→Prop):List Nat→(Nat→Bool)→Prop
 |[],E=>∀j,j<n→E j=true
 |q::r,E=>q<n∧E q=false∧(∀p,p<q→B p q→E p=true)∧(∀p,q<p→p<n→B q p→E p=false)∧Good n B r (fun j=>j==q||E j)
abbrev bd (ops:Array Oper) (p q:Nat):Prop:=((gK ops.toList []).getD q 0).testBit p=true
theorem um (hedge:jU ops.toList 0=true):∀(L:List Nat) (listed:Array Bool),listed.size=ops.size→(∀(j:Nat) o,ops[j]?=some o→listed.getD j true=true→∀e∈o.after.toList,Region.binds .any e=true→listed.getD e.on true=true) →
  Path ops L listed→Good ops.size (bd ops) L (fun j=>listed.getD j true)
 |[],listed,hsz,hcl,h=>by
  have edge:∀(j:Nat) o,ops[j]?=some o→∀e∈o.after.toList,Region.binds .any e=true→e.on<j:=fun j o ho e he hb=>by
   have:=ki ops.toList hedge (by rw[Array.getElem?_toList];exact ho) e he hb;omega
  intro j;induction j using Nat.strongRecOn with
  |_ j ih =>
   intro hj;cases hl:listed.getD j true with
   |true=>exact hl
   |false =>
    have ho:ops[j]?=some ops[j]:=by simp[hj]
    have:j∈Region.ready .any ops listed:=dw.mpr ⟨hj,hl,_,ho,fun e he hb=>by
     have h1:=edge j _ ho e he hb;have h2:=ih e.on h1 (by omega);have hlt:e.on<listed.size:=by omega
     simpa [Array.getD,hlt]using h2⟩
    rw[show Region.ready .any ops listed=[] from h]at this;cases this
 |q::r,listed,hsz,hcl,h=>by
  obtain⟨hm,hp⟩:=h;obtain⟨h1,h2,o,ho,h3⟩:=dw.mp hm;have edge:∀(j:Nat) o,ops[j]?=some o→∀e∈o.after.toList,Region.binds .any e=true→e.on<j:=fun j o ho e he hb=>by
   have:=ki ops.toList hedge (by rw[Array.getElem?_toList];exact ho) e he hb;omega
  have hrq:∀e∈o.after.toList,Region.binds .any e=true→listed.getD e.on true=true:=fun e he hb=>by
   have h4:=edge q o ho e he hb;have h5:=h3 e he hb;have hlt:e.on<listed.size:=by omega
   simpa [Array.getD,hlt]using h5
  have hset:=oq (listed:=listed) (q:=q) (by omega);refine⟨h1,h2,fun p hp hb=>?_,fun p hp hps hb=>?_,?_⟩
  ·exact ahead (E:=fun j=>listed.getD j true=true) (fun j o h1 h2 e h3 h4=>hcl j o (by rw[Array.getElem?_toList]at h1;exact h1) h2 e h3 h4) q o (by rw[Array.getElem?_toList];exact ho) hrq p hb
  ·cases hEp:listed.getD p true with
   |false=>exact hEp
   |true =>
    have hop:ops[p]?=some ops[p]:=by simp[hps]
    have:=ahead (E:=fun j=>listed.getD j true=true) (fun j o h1 h2 e h3 h4=>hcl j o (by rw[Array.getElem?_toList]at h1;exact h1) h2 e h3 h4) p _ (by rw[Array.getElem?_toList];exact hop) (hcl p _ hop hEp) q hb;simp only[h2]at this;cases this
  rw[←show(fun j=>(listed.setIfInBounds q true).getD j true)=(fun j=>j==q||listed.getD j true) from funext hset];refine um hedge r _ (by simp[hsz]) (fun j oj hoj hj e he hb=>?_) hp;rw[hset]at hj ⊢;simp only[Bool.or_eq_true,beq_iff_eq]at hj ⊢;rcases hj with hj|hj
  ·subst hj;rw[ho]at hoj;injection hoj with hoj
   subst hoj;exact .inr (hrq e he hb)
  exact .inr (hcl j oj hoj hj e he hb)
theorem w9 {n p:Nat} (hpn:p+1<n) {B:Nat→Nat→Prop}:∀(L:List Nat) (E:Nat→Bool),Good n B L E →
  (E p=true→Good n (fun x y=>B x y∨(x=p∧y=p+1)) L E) ∧
  (E (p+1)=true→Good n (fun x y=>(sg p x<sg p y∧B (sg p x) (sg p y))∨(x=p∧y=p+1)) (L.map (sg p)) (fun j=>E (sg p j))) ∧
  (E p=false→E (p+1)=false→Good n (fun x y=>B x y∨(x=p∧y=p+1)) L E∨Good n (fun x y=>(sg p x<sg p y∧B (sg p x) (sg p y))∨(x=p∧y=p+1)) (L.map (sg p)) (fun j=>E (sg p j)))
 |[],E,h=>⟨fun _=>h,fun _ j hj=>h _ (si hpn hj),fun _ _=>.inl h⟩
 |q::r,E,⟨h1,h2,h3,h4,h5⟩=>by
  obtain⟨i1,i2,i3⟩:=w9 hpn r _ h5;have ee:(fun j=>(fun j=>j==q||E j) (sg p j))=fun j=>j==sg p q||E (sg p j):=funext fun j=>by
   show(sg p j==q||E (sg p j))=_;congr 1;by_cases hj:sg p j=q
   ·rw[←hj,jy];simp
   rw[show(sg p j==q)=false by simpa using hj];symm;have:j≠sg p q:=fun e=>hj (by rw[e,jy])
   simpa using this
  rw[ee]at i2 i3;have oldB:∀x,x<sg p q→sg p x<q∧B (sg p x) q→E (sg p x)=true:=fun x _ hb=>h3 _ hb.1 hb.2
  have oldB':∀x,x<n→q<sg p x∧B q (sg p x)→E (sg p x)=false:=fun x hx hb=>h4 _ hb.1 (si hpn hx) hb.2
  refine⟨fun hE=>?_,fun hE=>?_,fun hE1 hE2=>?_⟩
  ·have hqp:q≠p:=fun e=>by rw[e,hE]at h2;cases h2
   refine⟨h1,h2,fun x hx hb=>?_,fun x hx hxn hb=>?_,i1 (by simp[hE])⟩
   ·rcases hb with hb|⟨rfl,-⟩
    ·exact h3 x hx hb
    exact hE
   rcases hb with hb|⟨rfl,-⟩
   ·exact h4 x hx hxn hb
   exact absurd rfl hqp
  ·have hqp:q≠p+1:=fun e=>by rw[e,hE]at h2;cases h2
   refine⟨si hpn h1,by show E (sg p (sg p q))=false;rw[jy];exact h2,fun x hx hb=>?_,fun x hx hxn hb=>?_,i2 (by simp[hE])⟩
   ·have hb:(sg p x<sg p (sg p q)∧B (sg p x) (sg p (sg p q)))∨(x=p∧sg p q=p+1):=hb;rw[jy]at hb;rcases hb with hb|⟨rfl,-⟩
    ·exact oldB x hx hb
    show E (sg _ _)=true;rw[tM];exact hE
   have hb:(sg p (sg p q)<sg p x∧B (sg p (sg p q)) (sg p x))∨(sg p q=p∧x=p+1):=hb;rw[jy]at hb;rcases hb with hb|⟨hb,-⟩
   ·exact oldB' x hxn hb
   exact absurd (by rw[←jy p q,hb,tM]) hqp
  by_cases hq1:q=p
  ·subst hq1;refine .inl ⟨h1,h2,fun x hx hb=>?_,fun x hx hxn hb=>?_,i1 (by simp)⟩
   ·rcases hb with hb|⟨rfl,e⟩
    ·exact h3 x hx hb
    omega
   rcases hb with hb|⟨-,rfl⟩
   ·exact h4 x hx hxn hb
   exact hE2
  by_cases hq2:q=p+1
  ·subst hq2;refine .inr ⟨si hpn h1,by show E (sg p (sg p (p+1)))=false;rw[jy];exact h2,fun x hx hb=>?_,fun x hx hxn hb=>?_,i2 (by simp)⟩
   ·have hb:(sg p x<sg p (sg p (p+1))∧B (sg p x) (sg p (sg p (p+1))))∨(x=p∧sg p (p+1)=p+1):=hb;rw[jy]at hb;rcases hb with hb|⟨rfl,e⟩
    ·exact oldB x hx hb
    rw[tN]at e;omega
   have hb:(sg p (sg p (p+1))<sg p x∧B (sg p (sg p (p+1))) (sg p x))∨(sg p (p+1)=p∧x=p+1):=hb;rw[jy]at hb;rcases hb with hb|⟨-,rfl⟩
   ·exact oldB' x hxn hb
   show E (sg _ _)=false;rw[tN];exact hE1
  have hs:sg p q=q:=pb hq1 hq2;have f1:(p==q)=false:=by simpa using fun e=>hq1 (Eq.symm e)
  have f2:(p+1==q)=false:=by simpa using fun e=>hq2 (Eq.symm e)
  rcases i3 (by simp[hE1,f1]) (by simp[hE2,f2]) with i|i
  ·refine .inl ⟨h1,h2,fun x hx hb=>?_,fun x hx hxn hb=>?_,i⟩
   ·rcases hb with hb|⟨-,e⟩
    ·exact h3 x hx hb
    exact absurd e hq2
   rcases hb with hb|⟨e,-⟩
   ·exact h4 x hx hxn hb
   exact absurd e hq1
  refine .inr ⟨si hpn h1,by show E (sg p (sg p q))=false;rw[jy];exact h2,fun x hx hb=>?_,fun x hx hxn hb=>?_,i⟩
  ·have hb:(sg p x<sg p (sg p q)∧B (sg p x) (sg p (sg p q)))∨(x=p∧sg p q=p+1):=hb;rw[jy]at hb;rcases hb with hb|⟨-,e⟩
   ·exact oldB x hx hb
   exact absurd (hs.symm.trans e) hq2
  have hb:(sg p (sg p q)<sg p x∧B (sg p (sg p q)) (sg p x))∨(sg p q=p∧x=p+1):=hb;rw[jy]at hb;rcases hb with hb|⟨e,-⟩
  ·exact oldB' x hxn hb
  exact absurd (hs.symm.trans e) hq1
theorem nf {n m:Nat} {own:Nat→Bool} {al:List dc} {hs:List (Nat×Hint)} {F:Nat→AF} {M:Nat→AM} {V:Nat→AV} {R:Exit→AF→AM→Prop} {ft:Nat→eT} (hT:lL C n own ops al true hs F M V)
  (hft:∀k,k<ops.size→ft k=aX (M k) (aP (F k) (tmpsOf (al.getD k default).k)) (bA hs k) (al.getD k default).k)
  {B:Nat→Nat→Prop} (hd:∀p q,p<q→q<ops.size→qW (al.getD p default) (al.getD q default)=true→B p q)
  (hm:∀p q,p<q→q<ops.size→pZ (al.getD p default) (al.getD q default)=true→B p q∨bU (ft p) (ft q)=true) (hR:R .normal (F ops.size) (M ops.size)) :
  ∀(L:List Nat) (E:Nat→Bool) (S1:Nat→Prop) (γ1:Gh) (w1:World) (a1:Act),(∀j k,j<k→k<ops.size→B j k→E k=true→E j=true)→Good ops.size B L E →
   Ext w S γ w1 S1 γ1→Wd C w0 S1 γ1 (dW (M 0) al ft M E ops.size) w1→FR C.D n w1 S1 γ1 (GF (F 0) al V E ops.size) a1 →
   wpOps C.P ops (Ends C n m w0 w S γ R) L a1 w1
 |[],E,S1,γ1,w1,a1,_,all,hE,hW,hF=>by
  have hGF:∀k,k≤ops.size→GF (F 0) al V E k=F k:=by
   intro k;induction k with
   |zero=>intro _;rfl
   |succ k ih =>
    intro hk;obtain⟨_,_,_,_,_,_,_,_,hFk⟩:=hT.at_ k (by omega);rw[GF,all k (by omega),cond_true,ih (by omega),hFk]
  have hGM:∀k,k≤ops.size→dW (M 0) al ft M E k=M k:=by
   intro k;induction k with
   |zero=>intro _;rfl
   |succ k ih =>
    intro hk;rw[dW,all k (by omega),Bool.true_and];obtain⟨_,_,_,_,_,hevk,_⟩:=hT.at_ k (by omega);cases he:gS (al.getD k default).k with
    |true =>
     rw[cond_true,ih (by omega)];have hl:=p7 hevk;rw[←hft k (by omega)]at hl;cases hf:ft k with
     |wr b l =>
      rw[hf]at hl;obtain⟨-,nb,h1,h2,-⟩:=hl;simp only[iI];rw[show(M (k+1))[b]?=some nb by rw[h2];exact List.getElem?_set_self h1];simp only;rw[h2]
     |al nb =>
      rw[hf]at hl;obtain⟨h0,x,h1,-⟩:=hl;simp only[iI];rw[show(M (k+1))[nb]?=some x by rw[h1,h0,List.getElem?_append_right (Nat.le_refl _),Nat.sub_self];rfl];simp only;rw[h1]
     |top=>rfl
     |big m n=>rfl
     |none=>rfl
     |rd l=>rfl
    |false =>
     rw[cond_false,ih (by omega)];exact(ik (by simpa [gS]using he) hevk).symm
  rw[hGM _ (Nat.le_refl _)]at hW;rw[hGF _ (Nat.le_refl _)]at hF;exact⟨S1,γ1,_,_,hE.toM m,hW,hF,hR⟩
 |q::r,E,S1,γ1,w1,a1,hcl,⟨h1,h2,h3,h4,h5⟩,hE,hW,hF=>by
  rw[wpOps_cons];exact uf hT.b hft hd hm hcl h1 h2 rfl h3 h4 (fun _=>rfl) hW hF fun a' w' S' γ' hE' hW' hF' =>
   nf hT hft hd hm hR r _ S' γ' w' a' (fun j k hj hk hb hEk=>by
    simp only[Bool.or_eq_true,beq_iff_eq]at hEk ⊢;rcases hEk with hEk|hEk
    ·subst hEk;exact .inr (h3 j hj hb)
    exact .inr (hcl j k hj hk hb hEk)) h5 (hE.trans hE') hW' hF'
theorem sn {P:Program} {ops':Array Oper} {Q:Exit→Act→World→Prop} {p:Nat} (hat:∀j,ops'[j]?=ops[sg p j]?) (hg:∀(j:Nat) o g b,ops[j]?=some o→o.guard=some (g,b)→g≠p∧g≠p+1):∀(L:List Nat) (a:Act) (w:World),wpOps P ops' Q (L.map (sg p)) a w→wpOps P ops Q L a w
 |[],_,_,h=>h
 |i::r,a,w,h=>by
  rw[List.map_cons,wpOps_cons]at h;rw[wpOps_cons];have h:=wpOp_mono (fun a w=>sn hat hg r a w) h;unfold wpOp at h ⊢;rw[hat,jy]at h;cases ho:ops[i]? with
  |none=>rw[ho]at h;exact h
  |some o =>
   rw[ho]at h;have hw:Region.wanted o (yielded ops' a.tmps)=Region.wanted o (yielded ops a.tmps):=by
    unfold Region.wanted;cases hgd:o.guard with
    |none=>rfl
    |some gb =>
     obtain⟨g,b⟩:=gb;obtain⟨n1,n2⟩:=hg i o g b ho hgd;show(yielded ops' a.tmps g==some b)=(yielded ops a.tmps g==some b)
     unfold yielded;rw[hat,pb n1 n2]
   simp only[hw]at h;exact h
theorem jZ {P:Program} {own:Nat→Bool} {n:Nat} {o:Oper} {ao:dc} {g:Nat} {b:Bool} (hco:fh P own n ops o=some ao) (hg:o.guard=some (g,b)):∃t,(ops[g]?).bind (·.dst)=some t∧ao.guard=some (t,b):=by
 unfold fh at hco;rw[hg]at hco;split at hco
 ·cases hco
 split at hco
 ·rename_i h;cases h
 ·rename_i j want hd h;injection h with h
  injection h with h1 h2
  subst h1 h2;split at hco
  ·rename_i t ht;injection hco with hco
   subst hco;exact⟨t,ht,rfl⟩
  cases hco
 cases hco
theorem zc {P:Program} {own:Nat→Bool} {n:Nat} {o:Oper} {ops':Array Oper} (h:∀g b,o.guard=some (g,b)→ops'[g]?=ops[g]?):fh P own n ops' o=fh P own n ops o:=by
 unfold fh;cases hg:o.guard with
 |some gb =>
  obtain⟨g,b⟩:=gb;have:=h g b hg;cases hd:o.dst with
  |none=>dsimp only;rw[this]
  |some d =>
   dsimp only;cases hb:Nat.blt d n
   ·rfl
   dsimp only;rw[this]
 |none =>
  cases hd:o.dst with
  |none=>rfl
  |some d =>
   dsimp only;cases hb:Nat.blt d n<;>rfl
theorem uo {n:Nat} {own:Nat→Bool} {al:List dc} {hs:List (Nat×Hint)} {vc:VC} {pr:List Prop} {fs:List eT} {f':AF} {μ':AM} (hl:al.length=ops.size) (hat:∀(j:Nat) o,ops[j]?=some o→∃ao,al[j]?=some ao∧fh C.P own n ops o=some ao)
  (he:bX (aq C) (aF C) al hs 0 [] [] [] f μ=some (vc,pr,fs,f',μ')) (hvc:az vc) (hpr:aB pr) :
  ∃F M V,F 0=f∧M 0=μ∧F ops.size=f'∧M ops.size=μ'∧lL C n own ops al true hs F M V∧∀k,k<ops.size→cS fs k=aX (M k) (aP (F k) (tmpsOf (al.getD k default).k)) (bA hs k) (al.getD k default).k:=by
 obtain⟨he0,hfs⟩:=lP al 0 [] [] [] f μ he;obtain⟨-,F,M,V,h1,h2,h3,h4,h5⟩:=cJ al 0 [] [] f μ vc pr f' μ' he0 hvc hpr;have hfs:=hfs F M V h1 h2 fun j ao hao=>by
  obtain⟨vcj,prj,k1,k2,k3,k4⟩:=h5 j ao hao;exact⟨vcj,prj,k1,k4⟩
 rw[Nat.zero_add]at h3 h4;refine⟨F,M,V,h1,h2,by rw[←hl];exact h3,by rw[←hl];exact h4,⟨hl,fun j hj=>?_⟩,fun k hk=>?_⟩
 ·have ho:ops[j]?=some ops[j]:=by simp[hj]
  obtain⟨ao,hao,hco⟩:=hat j ops[j] ho;obtain⟨vcj,prj,k1,k2,k3,k4⟩:=h5 j ao hao;rw[Nat.zero_add]at k1 k4;have hg:al.getD j default=ao:=by rw[List.getD,hao];rfl
  exact⟨_,vcj,prj,ho,by rw[hg];exact hco,by rw[hg];exact k1,k2,k3,by rw[hg];exact k4⟩
 rw[mR,hfs,List.nil_append,List.getD,List.getElem?_map,List.getElem?_range (by omega)];simp only[Option.map_some,Option.getD_some,Nat.zero_add]
theorem qd {M:Nat→AM} {al:List dc} {ft:Nat→eT}:∀k,dW (M 0) al ft M (fun _=>false) k=M 0
 |0=>rfl
 |k+1=>by rw[dW,Bool.false_and,cond_false,qd k]
theorem so {F:Nat→AF} {al:List dc} {V:Nat→AV}:∀k,GF (F 0) al V (fun _=>false) k=F 0
 |0=>rfl
 |k+1=>by rw[GF,cond_false,so k]
theorem sq {n:Nat} {B:Nat→Nat→Prop}:∀(L:List Nat) {E E':Nat→Bool},(∀j,j<n→E j=E' j)→Good n B L E→Good n B L E'
 |[],_,_,h,hg=>fun j hj=>(h j hj).symm.trans (hg j hj)
 |q::r,_,_,h,⟨h1,h2,h3,h4,h5⟩=>⟨h1,(h q h1).symm.trans h2,fun p hp hb=>(h p (by omega)).symm.trans (h3 p hp hb),fun p hp hps hb=>(h p hps).symm.trans (h4 p hp hps hb),
  sq r (fun j hj=>by rw[h j hj]) h5⟩
theorem xd {n m id p:Nat} {own:Nat→Bool} {al:List dc} {hs hs2:List (Nat×Hint)} {vc vc2:VC} {pr pr2:List Prop} {fs fs2:List eT} {f' f2:AF} {μ' μ2:AM} {R:Exit→AF→AM→Prop} (hc:eO C.P own n ops ops.toList=some al) (hd:p6 ops.toList al=true) (hsw:za p al=true)
  (he:bX (aq C) (aF C) al hs 0 [] [] [] f μ=some (vc,pr,fs,f',μ')) (hvc:az vc) (hpr:aB pr) (hfree:dm fs (sj p (jh ops.toList al))=true) (hR:R .normal f' μ')
  (he2:bX (aq C) (aF C) (my p al) hs2 0 [] [] [] f μ=some (vc2,pr2,fs2,f2,μ2)) (hvc2:az vc2) (hpr2:aB pr2) (hfree2:dm fs2 (sk p (jh ops.toList al))=true) (hR2:R .normal f2 μ2):AW C n m (.region id ops true) R f μ:=by
 intro w0 S γ w a hW hF;obtain⟨hl,hat⟩:=eD hc;replace hl:al.length=ops.size:=hl.trans (Array.length_toList);simp only[p6,Bool.and_eq_true]at hd;simp only[za,Bool.and_eq_true]at hsw;have hpn:p+1<al.length:=Nat.blt_eq.mp hsw.1;have hdep:∀p q,p<q→q<ops.size→qW (al.getD p default) (al.getD q default)=true→bd ops p q:=fun p q hpq hq hdp=>by
  have h6:=List.all_eq_true.mp hd.2 q (List.mem_range.mpr (by omega));have h7:=List.all_eq_true.mp h6 p (List.mem_range.mpr hpq);rw[hdp]at h7;show((gK ops.toList []).getD q 0).testBit p=true;simpa using h7
 have hgd:∀(j:Nat) o g b,ops[j]?=some o→o.guard=some (g,b)→g≠p∧g≠p+1:=fun j o g b ho hg=>by
  obtain⟨ao,hao,hco⟩:=hat j o (by rw[Array.getElem?_toList];exact ho);have h6:=List.all_eq_true.mp hsw.2 ao (List.mem_of_getElem? hao);have key:∀k,g=k→k<al.length→∃t,ao.guard=some (t,b)∧(al.getD k default).dst=some t:=fun k hk hkl=>by
   subst hk;have hok:ops[g]?=some ops[g]:=by simp[←hl,hkl]
   obtain⟨ak,hak,hck⟩:=hat g ops[g] (by rw[Array.getElem?_toList];exact hok);have e:al.getD g default=ak:=by rw[List.getD,hak];rfl
   rw[e];obtain⟨_,_,hdst,-⟩:=bH hck;obtain⟨t,ht,hgt⟩:=jZ hco hg;rw[hok]at ht;exact⟨t,hgt,by first|exact hdst.symm.trans ht|exact hdst.trans ht|(rw[hdst];exact ht)⟩
  refine⟨fun e=>?_,fun e=>?_⟩
  ·obtain⟨t,h7,h8⟩:=key p e (by omega);rw[h7]at h6;simp only[h8,Bool.and_eq_true]at h6;simp at h6
  obtain⟨t,h7,h8⟩:=key (p+1) e (by omega);rw[h7]at h6;simp only[h8,Bool.and_eq_true]at h6;simp at h6
 obtain⟨hW1,hE1⟩:=hW.drew;refine wp_region_draw fun t=>?_
 simp only[Region.schedule,C.mixed,Bool.true_or,if_true];have hpath:=w8 (ops:=ops) ops.size t (Array.replicate ops.size false) (by simp) (Nat.le_trans (List.countP_le_length) (by simp));have hgood:=sq _ (E':=fun _=>false) (fun j hj=>by simp[Array.getD,hj]) (um hd.1 _ _ (by simp) (fun j o ho hj=>by
  have hjs:j<ops.size:=by
   apply Classical.byContradiction;intro hn;rw[Array.getElem?_eq_none (by omega)]at ho;cases ho
  simp[Array.getD,hjs]at hj) hpath)
 rcases(w9 (p:=p) (by omega) _ _ hgood).2.2 rfl rfl with hg|hg
 ·obtain⟨F,M,V,h1,h2,h3,h4,hT,hft⟩:=uo hl (fun j o ho=>hat j o (by rw[Array.getElem?_toList];exact ho)) he hvc hpr;refine nf hT hft (fun x y hx hy hdp=>.inl (hdep x y hx hy hdp)) (fun x y hx hy hdp=>?_) (by rw[h3,h4];exact hR) _ _ S γ w.drew a (fun _ _ _ _ _ h=>absurd (show false=true from h) Bool.false_ne_true) hg hE1 (by rw[qd,h2];exact hW1) (by rw[so,h1];exact hF.drew hE1);by_cases hxy:x=p∧y=p+1
  ·exact .inl (.inr hxy)
  cases hb:((gK ops.toList []).getD y 0).testBit x with
  |true=>exact .inl (.inl hb)
  |false=>exact .inr (lM hfree x y (uj hxy (kV hx (by omega) hdp hb)))
 have hops:∀j,(my p ops.toList).toArray[j]?=ops[sg p j]?:=fun j=>by
  rw[List.getElem?_toArray,pc p _ j (by rw[Array.length_toList];omega),Array.getElem?_toList]
 have hal:∀j,(my p al).getD j default=al.getD (sg p j) default:=fun j=>by
  rw[List.getD,pc p al j hpn,List.getD]
 have hsz:(my p ops.toList).toArray.size=ops.size:=by rw[List.size_toArray,qc,Array.length_toList]
 refine sn hops hgd _ _ _ ?_;obtain⟨F,M,V,h1,h2,h3,h4,hT,hft⟩:=uo (C:=C) (ops:=(my p ops.toList).toArray) (n:=n) (own:=own) (by rw[qc,hl,hsz]) (fun j o ho=>by
  rw[hops]at ho;obtain⟨ao,hao,hco⟩:=hat _ o (by rw[Array.getElem?_toList];exact ho);refine⟨ao,by rw[pc p al j hpn];exact hao,?_⟩;rw[←hco];exact zc fun g b hg=>by
   obtain⟨n1,n2⟩:=hgd _ o g b ho hg;rw[hops,pb n1 n2]) he2 hvc2 hpr2
 rw[hsz]at hft h3 h4;refine nf hT (by rw[hsz];exact hft) (fun x y hx hy hdp=>?_) (fun x y hx hy hdp=>?_) (by rw[hsz,h3,h4];exact hR2) _ _ S γ w.drew a (fun _ _ _ _ _ h=>absurd (show false=true from h) Bool.false_ne_true) (by rw[hsz];exact hg) hE1 (by rw[qd,h2];exact hW1) (by rw[so,h1];exact hF.drew hE1)
 ·rw[hsz]at hy;rw[hal,hal]at hdp;by_cases hxy:x=p∧y=p+1
  ·exact .inr hxy
  have hlt:=Al hx hxy;exact .inl ⟨hlt,hdep _ _ hlt (si (by omega) hy) hdp⟩
 rw[hsz]at hy;rw[hal,hal]at hdp;by_cases hxy:x=p∧y=p+1
 ·exact .inl (.inr hxy)
 have hlt:=Al hx hxy;cases hb:((gK ops.toList []).getD (sg p y) 0).testBit (sg p x) with
 |true=>exact .inl (.inl ⟨hlt,hb⟩)
 |false =>
  have hlt2:sg p y<al.length:=by rw[hl];exact si (by omega) hy
  have hn:¬(sg p x=p∧sg p y=p+1):=fun ⟨e1,e2⟩=>by
   have e3:=jy p x;have e4:=jy p y;rw[e1,tM]at e3;rw[e2,tN]at e4;omega
  have:=lM hfree2 _ _ (uk hn (kV hlt hlt2 hdp hb));rw[jy,jy]at this;exact .inr this
variable {own:Nat→Bool} {n m:Nat} {R:Exit→AF→AM→Prop}
theorem G6 (p:Nat) {al:List dc} {free:List (Nat×Nat)} (hs hs2:List (Nat×Hint)) {y:av} (hsw:za p al=true)
  (h1:eF (sj p free) (fun f μ=>Aw C own n m y R f μ) (bX (aq C) (aF C) al hs 0 [] [] [] f μ))
  (h2:eF (sk p free) (fun f μ=>Aw C own n m y R f μ) (bX (aq C) (aF C) (my p al) hs2 0 [] [] [] f μ)):Aw C own n m (.seq (.regionF al free) y) R f μ:=by
 refine eE ?_;intro c hc;obtain⟨id,ops,rfl,g1,g2,rfl⟩:=o6 hc;unfold eF at h1 h2;split at h1
 ·rename_i he;split at h2
  ·rename_i he2;exact xd g1 g2 hsw he h1.1 h1.2.1 h1.2.2.1 h1.2.2.2 he2 h2.1 h2.2.1 h2.2.2.1 h2.2.2.2
  exact h2.elim
 exact h1.elim
end
end
section
def pd (C:Ctx) (f:FuncId) (as:List AV) (μ:AM) (c:List PanicEntry) (Post:AM→Prop):Prop :=
 eU C.P f=true∧∀(w0:World) (S:Nat→Prop) (γ:Gh) (w:World) (vs:List Value),Wd C w0 S γ μ w→PW (VR w S γ) as vs →
  Calls C.P f vs.toArray w fun e w'=>∃S' γ' μ',e= .panicked c∧Ext w S γ w' S' γ'∧Wd C w0 S' γ' μ' w'∧Post μ'
def su (f:AF):K→Option (FuncId×List AV)
 | .call g as=>some (g,as.map (ev f))
 | .callv x as=>match ev f x with
  | .fn g caps=>some (g,as.map (ev f)++caps)
  | .bm g first=>some (g,first++as.map (ev f))
  | .pv (.val (.func (.func g) a b))=>match a.toList,b.toList with
   |[],[]=>some (g,as.map (ev f))
   |_,_=>none
  |_=>none
 |_=>none
def CY (C:Ctx) (R:Exit→AF→AM→Prop) (r:Option dc):Option (VC×List Prop×AF×AM)→Prop
 |some (vc,pr,f,μ)=>az vc∧aB pr∧match r with
  |some o=>match o.guard,su f o.k with
   |none,some (g,as)=>∃c Post,pd C g as μ c Post∧∀μ1,Post μ1→R (.panic c) f μ1
   |none,none=>match o.k with
    | .pan x=>match ev f x with
     | .pv (.val (.iface t v))=>R (.panic [{v:=.iface t v,recovered:=false}]) f μ
     |_=>False
    |_=>False
   |_,_=>False
  |none=>False
 |none=>False
section
variable {C:Ctx} {w0 w:World} {S:Nat→Prop} {γ:Gh} {μ:AM} {f:AF} {a:Act} {o:Oper} {ops:Array Oper}
theorem vn {c:Call} {g:FuncId} {first args caps:Array Value} {K':Act→World→Prop} {Q:Exit→Act→World→Prop} {ch:List PanicEntry} {R:World→Prop} {us:List Value} (ho:o.op= .call c) (hc:eU C.P g=true)
  (hv:∃x,c.callee= .value x∧a.eval x= .func (.func g) first caps) (ha:c.args.map a.eval=args) (hus:us.toArray=first++args++caps) (h:Calls C.P g us.toArray w fun e w'=>e= .panicked ch∧R w') (hQ:∀w',R w'→Q (.panic ch) a w'):o.wp C.P a w K' Q:=by
 obtain⟨x,h1,h2⟩:=hv;obtain⟨callee,args0,ts⟩:=c;simp only at h1 ha;subst h1;have hr:(execOp a.eval o).run C.P w= .ok (.enter g (first++args++caps)) w:=by
  simp[execOp,ho,resolve,h2,Deferred.ofValue,invoke,iG hc,ha]
 unfold Oper.wp;rw[hr,Oper.upon_enter,←hus];refine h.mono fun e w' h=>?_
 obtain⟨rfl,hR⟩:=h;exact hQ w' hR
theorem Bp {P:Program} {own:Bool} {k:K} {g:FuncId} {as:List AV} {c:List PanicEntry} {Post:AM→Prop} {K':Act→World→Prop} {Q:Exit→Act→World→Prop} (hP:P=C.P) (hW:Wd C w0 S γ μ w) (hk:ir P own o.op=some k)
  (hf:∀t,VR w S γ (get f t) (a.eval (.tmp t))) (ht:su f k=some (g,as)) (hp:pd C g as μ c Post)
  (hQ:∀w' S' γ' μ',Ext w S γ w' S' γ'→Wd C w0 S' γ' μ' w'→Post μ'→Q (.panic c) a w'):o.wp C.P a w K' Q:=by
 have fin:∀{us:List Value},PW (VR w S γ) as us→Calls C.P g us.toArray w fun e w'=>e= .panicked c∧∃S' γ' μ',Ext w S γ w' S' γ'∧Wd C w0 S' γ' μ' w'∧Post μ':=fun {us} hv =>
  (hp.2 w0 S γ w us hW hv).mono fun e w' hh=>by
   obtain⟨S',γ',μ',h1,h2,h3,h4⟩:=hh;exact⟨h1,S',γ',μ',h2,h3,h4⟩
 have hQ':∀w',(∃S' γ' μ',Ext w S γ w' S' γ'∧Wd C w0 S' γ' μ' w'∧Post μ')→Q (.panic c) a w':=fun w' ⟨S',γ',μ',h2,h3,h4⟩=>hQ w' S' γ' μ' h2 h3 h4
 cases k with
 |call g' as' =>
  injection ht with ht
  injection ht with e1 e2
  subst e1 e2;obtain⟨c,hop,hcc⟩:=fk hk rfl;rcases fl hcc rfl with⟨g',as',hc1,hc2,he'⟩|⟨t,as',hc1,hc2,he'⟩
  ·injection he' with e1 e2
   subst e1 e2;have hv:=iD (w:=w) (S:=S) (γ:=γ) (f:=f) (a:=a) hc2 fun t _=>hf t
   refine vn (first:=#[]) (args:=c.args.map a.eval) (caps:=#[]) hop hp.1 ⟨_,hc1,rfl⟩ rfl ?_ (fin hv) hQ';simp[←Array.toList_map]
  cases he'
 |callv x as' =>
  obtain⟨c,hop,hcc⟩:=fk hk rfl;rcases fl hcc rfl with⟨g',as',hc1,hc2,he'⟩|⟨t,as',hc1,hc2,he'⟩
  ·cases he'
  injection he' with e1 e2
  subst e1 e2;have hv:=iD (w:=w) (S:=S) (γ:=γ) (f:=f) (a:=a) hc2 fun t _=>hf t
  have hx:=hf t;simp only[su]at ht;split at ht
  ·rename_i g0 caps hg;injection ht with ht
   injection ht with e1 e2
   subst e1 e2;simp only[ev]at hg;rw[hg]at hx;generalize hxe:a.eval (.tmp t)=xv at hx;cases hx with
   |fn _ _ cs hl hat =>
    refine vn (first:=#[]) (args:=c.args.map a.eval) (caps:=cs.toArray) hop hp.1 ⟨_,hc1,hxe⟩ rfl ?_ (fin (hv.append ⟨hl,hat⟩)) hQ';simp[←Array.toList_map]
  ·rename_i g0 first hg
   injection ht with ht
   injection ht with e1 e2
   subst e1 e2;simp only[ev]at hg;rw[hg]at hx;generalize hxe:a.eval (.tmp t)=xv at hx;cases hx with
   |bm _ _ cs hl hat =>
    refine vn (first:=cs.toArray) (args:=c.args.map a.eval) (caps:=#[]) hop hp.1 ⟨_,hc1,hxe⟩ rfl ?_ (fin (PW.append ⟨hl,hat⟩ hv)) hQ';simp[←Array.toList_map]
  ·rename_i g0 x y hg;split at ht
   ·rename_i hxa hya;injection ht with ht
    injection ht with e1 e2
    subst e1 e2;simp only[ev]at hg;rw[hg]at hx;generalize hxe:a.eval (.tmp t)=xv at hx;obtain rfl:=gH hx;obtain rfl:x=#[]:=by cases x;simp only at hxa;subst hxa;rfl
    obtain rfl:y=#[]:=by cases y;simp only at hya;subst hya;rfl
    refine vn (first:=#[]) (args:=c.args.map a.eval) (caps:=#[]) hop hp.1 ⟨_,hc1,hxe⟩ rfl ?_ (fin hv) hQ';simp[←Array.toList_map]
   cases ht
  cases ht
 |_=>cases ht
theorem xe {n m id k:Nat} {own:Nat→Bool} {al:List dc} {cm:Bool} {hs:List (Nat×Hint)} {vc:VC} {pr:List Prop} {f':AF} {μ':AM} {R:Exit→AF→AM→Prop} {op:dc} (hc:eO C.P own n ops ops.toList=some al)
  (hk:al[k]?=some op) (hg:op.guard=none) (he:bN (aq C) (aF C) cm false (al.take k) hs 0 [] [] f μ=some (vc,pr,f',μ')) (hvc:az vc) (hpr:aB pr)
  (hstop:∀(o:Oper) (w0:World) (S:Nat→Prop) (γ:Gh) (w:World) (S1:Nat→Prop) (γ1:Gh) (w1:World) (a1:Act) (K':Act→World→Prop),fh C.P own n ops o=some op→Ext w S γ w1 S1 γ1→Wd C w0 S1 γ1 μ' w1→FR C.D n w1 S1 γ1 f' a1→o.wp C.P a1 w1 K' (Ends C n m w0 w S γ R)):AW C n m (.region id ops false) R f μ:=by
 intro w0 S γ w a hW hF;refine wp_region ?_;obtain⟨-,F,M,V,h1,h2,h3,h4,h5⟩:=cJ (al.take k) 0 [] [] f μ vc pr f' μ' he hvc hpr;obtain⟨hl,hat⟩:=eD hc;replace hl:al.length=ops.size:=hl.trans (Array.length_toList);have hkl:k<al.length:=(List.getElem?_eq_some_iff.mp hk).1;have hlt:(al.take k).length=k:=by rw[List.length_take];omega
 rw[Nat.zero_add,hlt]at h3 h4;have key:∀(l j:Nat),j+l=k→∀(S1:Nat→Prop) (γ1:Gh) (w1:World) (a1:Act),Ext w S γ w1 S1 γ1→Wd C w0 S1 γ1 (M j) w1→FR C.D n w1 S1 γ1 (F j) a1→wpOps C.P ops (Ends C n m w0 w S γ R) (List.range' j (ops.size-j)) a1 w1:=by
  intro l;induction l with
  |zero =>
   intro j hj S1 γ1 w1 a1 hE hW1 hF1;obtain rfl:j=k:=by omega
   rw[show ops.size-j=(ops.size-j-1)+1 by omega,List.range'_succ,wpOps_cons];have ho:ops[j]?=some ops[j]:=by simp[←hl,hkl]
   obtain⟨ao,hao,hco⟩:=hat j ops[j] (by rw[Array.getElem?_toList];exact ho);rw[hk]at hao;injection hao with hao
   subst hao;obtain⟨ow,hkk,hdst,-,-⟩:=bH hco;have hgo:(ops[j]).guard=none:=by
    cases hgu:(ops[j]).guard with
    |none=>rfl
    |some gb =>
     obtain⟨g0,b0⟩:=gb;obtain⟨t0,-,h0⟩:=jZ hco hgu;rw[hg]at h0;cases h0
   refine dV ho ?_;unfold k9;rw[if_pos (by unfold Region.wanted;rw[hgo])];rw[h4]at hW1;rw[h3]at hF1;exact hstop _ w0 S γ w S1 γ1 w1 a1 _ hco hE hW1 hF1
  |succ l ih =>
   intro j hj S1 γ1 w1 a1 hE hW1 hF1;have hjs:j<ops.size:=by omega
   rw[show ops.size-j=(ops.size-(j+1))+1 by omega,List.range'_succ,wpOps_cons];have ho:ops[j]?=some ops[j]:=by simp[hjs]
   obtain⟨ao,hao,hco⟩:=hat j ops[j] (by rw[Array.getElem?_toList];exact ho);obtain⟨vcj,prj,k1,k2,k3,k4⟩:=h5 j ao (by rw[List.getElem?_take,if_pos (by omega)];exact hao);rw[Nat.zero_add]at k1 k4;obtain⟨-,-,hdst,hlt,-⟩:=bH hco;refine dV ho (bF hW1 hco k1 k2 k3 (fun t _=>hF1.val t) fun u w2 S2 γ2 hE2 hW2 hv=>?_);refine ih (j+1) (by omega) S2 γ2 w2 _ (hE.trans hE2) hW2 ?_;rw[k4,hdst];exact(hF1.ext hE2).put hv hlt
 rw[List.range_eq_range'];exact key k 0 (by omega) S γ w a (Ext.refl _ _ _) (by rw[h2];exact hW) (by rw[h1];exact hF)
theorem E2 {n m id k:Nat} {own:Nat→Bool} {al:List dc} {cm:Bool} {hs:List (Nat×Hint)} {vc:VC} {pr:List Prop} {f':AF} {μ':AM} {R:Exit→AF→AM→Prop} {op:dc} {g:FuncId} {as:List AV} {ch:List PanicEntry} {Post:AM→Prop} (hc:eO C.P own n ops ops.toList=some al)
  (hk:al[k]?=some op) (hg:op.guard=none) (he:bN (aq C) (aF C) cm false (al.take k) hs 0 [] [] f μ=some (vc,pr,f',μ')) (hvc:az vc) (hpr:aB pr) (ht:su f' op.k=some (g,as)) (hp:pd C g as μ' ch Post)
  (hR:∀μ1,Post μ1→R (.panic ch) f' μ1):AW C n m (.region id ops false) R f μ :=
 xe hc hk hg he hvc hpr fun o w0 S γ w S1 γ1 w1 a1 K' hco hE hW1 hF1=>by
  obtain⟨ow,hkk,hdst,-,-⟩:=bH hco;exact Bp rfl hW1 hkk hF1.val ht hp fun w' S' γ' μ1 hE2 hW2 hP=>⟨S',γ',f',μ1,(hE.trans hE2).toM m,hW2,hF1.ext hE2,hR μ1 hP⟩
def CZ:K→Bool
 | .pan _=>true
 |_=>false
theorem zd {P:Program} {op:BinOp} {t:TypeId} {x y:Operand} {k:K} (hk:gG P op t x y=some k) (h:CZ k=true):False:=by
 unfold gG at hk;repeat' split at hk
 all_goals first
  |(cases hk;done)
  |(injection hk with hk;subst hk;cases h;done)
  |(
   obtain⟨_,hk⟩:=bB hk;repeat' split at hk
   all_goals first
    |(cases hk;done)
    |(injection hk with hk;subst hk;cases h;done))
theorem qJ {P:Program} {c:Call} {k:K} (hk:cL P c=some k) (h:CZ k=true):False:=by
 unfold cL at hk;split at hk
 ·obtain⟨_,_,h2⟩:=map_some hk;subst h2;cases h
 ·obtain⟨_,_,h2⟩:=map_some hk;subst h2;cases h
 ·cases hk
 ·cases hk
 unfold dU at hk;repeat' split at hk
 all_goals first
  |(cases hk;done)
  |(injection hk with hk;subst hk;cases h;done)
  |(obtain⟨_,hk⟩:=aG hk;injection hk with hk;subst hk;cases h;done)
theorem xg {P:Program} {own:Bool} {op:Op} {k:K} (hk:ir P own op=some k) (h:CZ k=true):∃y x,op= .panic y∧aA y=some x∧k= .pan x:=by
 cases op<;>simp only[ir]at hk;case panic y =>
  obtain⟨z,h1,h2⟩:=map_some hk;exact⟨y,z,rfl,h1,h2.symm⟩
 case call c =>
  exfalso;split at hk
  ·rcases ju hk with hk|⟨g,as,-,-,rfl⟩
   ·exact qJ hk h
   cases h
  exact qJ hk h
 all_goals exfalso
 all_goals repeat' split at hk
 all_goals first
  |(cases hk;done)
  |(exact zd hk h)
  |contradiction
  |(injection hk with hk;subst hk;cases h;done)
  |(obtain⟨_,_,h2⟩:=map_some hk;subst h2;cases h;done)
  |(obtain⟨_,hk⟩:=aG hk;injection hk with hk;subst hk;cases h;done)
  |(obtain⟨_,hk⟩:=aG hk;obtain⟨_,_,h2⟩:=map_some hk;subst h2;cases h;done)
  |(obtain⟨_,hk2⟩:=aG hk;cases hk2;done)
  |(rcases mN hk with⟨_,h2⟩|⟨_,h2⟩<;>(subst h2;cases h))
theorem Bq {P:Program} {own:Bool} {op:Op} {x:b5} (h:ir P own op=some (.pan x)):∃y,op= .panic y∧aA y=some x:=by
 obtain⟨y,x',h1,h2,h3⟩:=xg h rfl;injection h3 with h3
 subst h3;exact⟨y,h1,h2⟩
theorem E3 {n m id k:Nat} {own:Nat→Bool} {al:List dc} {cm:Bool} {hs:List (Nat×Hint)} {vc:VC} {pr:List Prop} {f':AF} {μ':AM} {R:Exit→AF→AM→Prop} {op:dc} {x:b5} {v:Value} (hc:eO C.P own n ops ops.toList=some al)
  (hk:al[k]?=some op) (hg:op.guard=none) (he:bN (aq C) (aF C) cm false (al.take k) hs 0 [] [] f μ=some (vc,pr,f',μ')) (hvc:az vc) (hpr:aB pr) (ht:op.k= .pan x) {t:TypeId} (hx:ev f' x= .pv (.val (.iface t v)))
  (hR:R (.panic [{v:=.iface t v,recovered:=false}]) f' μ'):AW C n m (.region id ops false) R f μ :=
 xe hc hk hg he hvc hpr fun o w0 S γ w S1 γ1 w1 a1 K' hco hE hW1 hF1=>by
  obtain⟨ow,hkk,hdst,-,-⟩:=bH hco;rw[ht]at hkk;obtain⟨y,hop,hy⟩:=Bq hkk;have hv:=aR (w:=w1) (S:=S1) (γ:=γ1) (f:=f') (a:=a1) hy fun t _=>hF1.val t
  rw[hx]at hv;have hv:=gH hv;unfold Oper.wp;simp only[execOp,hop,hv,Sem.run_bind,run_panic_iface,Result.andThen_halt,Oper.upon_panic];exact⟨S1,γ1,f',μ',hE.toM m,hW1,hF1,hR⟩
variable {own:Nat→Bool} {n m:Nat} {R:Exit→AF→AM→Prop}
theorem G7 (k:Nat) (cm:Bool) {al:List dc} (hs:List (Nat×Hint)) (h:CY C R al[k]? (bN (aq C) (aF C) cm false (al.take k) hs 0 [] [] f μ)):Aw C own n m (.region false al) R f μ:=by
 intro c hc;obtain⟨id,ops,rfl,g1,-⟩:=iw hc;unfold CY at h;split at h
 ·rename_i vc pr f' μ' he;obtain⟨h1,h2,h3⟩:=h;split at h3
  ·rename_i o ho;split at h3
   ·rename_i g as hg ht;obtain⟨c,Post,h4,h5⟩:=h3;exact E2 g1 ho hg he h1 h2 ht h4 h5
   ·rename_i hg ht;split at h3
    ·rename_i x hk;split at h3
     ·rename_i t v hx;exact E3 g1 ho hg he h1 h2 hk hx h3
     exact h3.elim
    exact h3.elim
   exact h3.elim
  exact h3.elim
 exact h.elim
end
end
section
def nV (ay:List Nat) (n i:Nat):Nat:=match ay[i]? with
 |some b=>b
 |none=>n+(i-ay.length)
def nh (ay:List Nat) (n:Nat):Nat→AV→AV
 |_,.pv p=>.pv p
 |_,.iptr l o=>.iptr l o
 |_,.ref b g o k=>.ref (nV ay n b) g o k
 |_,.ptr b g o=>.ptr (nV ay n b) g o
 |_,.map b g=>.map (nV ay n b) g
 |d+1,.bm f l=>.bm f (l.map (nh ay n d))
 |d+1,.agg l=>.agg (l.map (nh ay n d))
 |d+1,.tup l=>.tup (l.map (nh ay n d))
 |d+1,.fn f l=>.fn f (l.map (nh ay n d))
 |d+1,.ifb c v=>.ifb c (nh ay n d v)
 |_,_=>.any
def pL (ay:List Nat) (n:Nat) (k:eN):eN:={k with cells:=k.cells.map (nh ay n 3)}
def uq (ay:List Nat) (n:Nat):List Nat→AM→AM→AM
 |b::bs,k::ks,μ=>uq ay n bs ks (μ.set b (pL ay n k))
 |_,ks,μ=>μ++ks.map (pL ay n)
def xh (ay:List Nat) (n:Nat) (μ:AM) (i:Nat):List Nat→AM→Prop
 |b::bs,k::ks=>μ[b]?=some (pL ay n k)∧xh ay n μ (i+1) bs ks
 |[],[]=>True
 |_,_=>False
section
variable {C:Ctx} {w0 w:World} {S:Nat→Prop} {γ γ':Gh} {ay:List Nat} {n:Nat}
theorem ze:∀(d:Nat) {v:AV} {u:Value},(∀i e,γ i=some e→γ' (nV ay n i)=some e)→VR w S γ v u→VR w S γ' (nh ay n d v) u:=by
 intro d;induction d with
 |zero =>
  intro v u hg h;cases h with
  |pv p _ hp=>exact .pv p _ hp
  |ref b g off k _ e a c h1 h2 h3 h4=>exact .ref _ g off k _ e a c (hg b e h1) h2 h3 h4
  |ptr b g off _ e a h1 h2 h3 h4=>exact .ptr _ g off _ e a (hg b e h1) h2 h3 h4
  |iptr l off g o c hS hc hi=>exact .iptr l off g o c hS hc hi
  |map b g _ e r h1 h2 h3 h4=>exact .map _ g _ e r (hg b e h1) h2 h3 h4
  |_=>exact .any _
 |succ d ih =>
  intro v u hg h;cases h with
  |pv p _ hp=>exact .pv p _ hp
  |ref b g off k _ e a c h1 h2 h3 h4=>exact .ref _ g off k _ e a c (hg b e h1) h2 h3 h4
  |ptr b g off _ e a h1 h2 h3 h4=>exact .ptr _ g off _ e a (hg b e h1) h2 h3 h4
  |iptr l off g o c hS hc hi=>exact .iptr l off g o c hS hc hi
  |map b g _ e r h1 h2 h3 h4=>exact .map _ g _ e r (hg b e h1) h2 h3 h4
  |agg l cs hl hat =>
   refine .agg _ cs (by simpa using hl) fun i p q hp hq=>?_
   rw[List.getElem?_map]at hp;obtain⟨p0,h1,rfl⟩:=Option.map_eq_some_iff.mp hp;exact ih hg (hat i p0 q h1 hq)
  |tup l cs hl hat =>
   refine .tup _ cs (by simpa using hl) fun i p q hp hq=>?_
   rw[List.getElem?_map]at hp;obtain⟨p0,h1,rfl⟩:=Option.map_eq_some_iff.mp hp;exact ih hg (hat i p0 q h1 hq)
  |fn f l cs hl hat =>
   refine .fn f _ cs (by simpa using hl) fun i p q hp hq=>?_
   rw[List.getElem?_map]at hp;obtain⟨p0,h1,rfl⟩:=Option.map_eq_some_iff.mp hp;exact ih hg (hat i p0 q h1 hq)
  |bm f l cs hl hat =>
   refine .bm f _ cs (by simpa using hl) fun i p q hp hq=>?_
   rw[List.getElem?_map]at hp;obtain⟨p0,h1,rfl⟩:=Option.map_eq_some_iff.mp hp;exact ih hg (hat i p0 q h1 hq)
  |ifb c a _ h1 h2=>exact .ifb c _ _ (fun hc=>ih hg (h1 hc)) h2
  |any _=>exact .any _
theorem sw {m:Nat}:∀(d:Nat) {v:AV} {u:Value},cZ d m v=true→(∀i e,i<m→γ (nV ay n i)=some e→γ' i=some e)→VR w S γ (nh ay n d v) u→VR w S γ' v u:=by
 intro d;induction d with
 |zero =>
  intro v u hb hg h;cases v<;>simp only[cZ]at hb<;>simp only[nh]at h;case pv p=>cases h with|pv _ _ hp=>exact .pv _ _ hp
  case ref b g off k=>cases h with|ref _ _ _ _ _ e a c h1 h2 h3 h4=>exact .ref _ g off k _ e a c (hg b e (Nat.blt_eq.mp hb) h1) h2 h3 h4
  case ptr b g off=>cases h with|ptr _ _ _ _ e a h1 h2 h3 h4=>exact .ptr _ g off _ e a (hg b e (Nat.blt_eq.mp hb) h1) h2 h3 h4
  case iptr l off=>cases h with|iptr _ _ g o c hS hc hi=>exact .iptr l off g o c hS hc hi
  case map b g=>cases h with|map _ _ _ e r h1 h2 h3 h4=>exact .map _ g _ e r (hg b e (Nat.blt_eq.mp hb) h1) h2 h3 h4
  all_goals first
   |exact .any _
   |cases hb
 |succ d ih =>
  intro v u hb hg h;have lst:∀{l:List AV} {cs:List Value},l.all (cZ d m)=true→(l.map (nh ay n d)).length=cs.length→(∀(i:Nat) p q,(l.map (nh ay n d))[i]?=some p→cs[i]?=some q→VR w S γ p q) →
    l.length=cs.length∧∀(i:Nat) p q,l[i]?=some p→cs[i]?=some q→VR w S γ' p q:=fun {l cs} ha hl hat =>
   ⟨by simpa using hl,fun i p q hp hq=>ih (List.all_eq_true.mp ha p (List.mem_of_getElem? hp)) hg (hat i _ q (by rw[List.getElem?_map,hp];rfl) hq)⟩
  cases v<;>simp only[cZ]at hb<;>simp only[nh]at h;case pv p=>cases h with|pv _ _ hp=>exact .pv _ _ hp
  case ref b g off k=>cases h with|ref _ _ _ _ _ e a c h1 h2 h3 h4=>exact .ref _ g off k _ e a c (hg b e (Nat.blt_eq.mp hb) h1) h2 h3 h4
  case ptr b g off=>cases h with|ptr _ _ _ _ e a h1 h2 h3 h4=>exact .ptr _ g off _ e a (hg b e (Nat.blt_eq.mp hb) h1) h2 h3 h4
  case iptr l off=>cases h with|iptr _ _ g o c hS hc hi=>exact .iptr l off g o c hS hc hi
  case map b g=>cases h with|map _ _ _ e r h1 h2 h3 h4=>exact .map _ g _ e r (hg b e (Nat.blt_eq.mp hb) h1) h2 h3 h4
  case agg l=>cases h with|agg _ cs hl hat=>obtain⟨q1,q2⟩:=lst hb hl hat;exact .agg _ _ q1 q2
  case tup l=>cases h with|tup _ cs hl hat=>obtain⟨q1,q2⟩:=lst hb hl hat;exact .tup _ _ q1 q2
  case fn f l=>cases h with|fn _ _ cs hl hat=>obtain⟨q1,q2⟩:=lst hb hl hat;exact .fn _ _ _ q1 q2
  case bm f l=>cases h with|bm _ _ cs hl hat=>obtain⟨q1,q2⟩:=lst hb hl hat;exact .bm _ _ _ q1 q2
  case ifb c a=>cases h with|ifb _ _ _ h1 h2=>exact .ifb _ _ _ (fun hc=>ih hb hg (h1 hc)) h2
  case any=>exact .any _
def xi (ay:List Nat) (n:Nat) (γ γs:Gh):Gh:=fun b=>match ay.findIdx? (fun c=>Nat.beq c b) with
 |some i=>γs i
 |none=>if b<n then γ b else γs (ay.length+(b-n))
theorem Br (hnd:ay.Nodup) {i b:Nat} (h:ay[i]?=some b):ay.findIdx? (fun c=>Nat.beq c b)=some i:=by
 rw[List.findIdx?_eq_some_iff_getElem];obtain⟨hi,hb⟩:=List.getElem?_eq_some_iff.mp h;refine⟨hi,by rw[hb];exact Nat.beq_refl b,fun j hj=>?_⟩;intro hjb;have hjb:=Nat.eq_of_beq_eq_true hjb;have:=(List.getElem_inj (i:=j) (j:=i) (h₀:=by omega) (h₁:=hi) hnd).mp (hjb.trans hb.symm);omega
theorem qe {b:Nat} (h:b ∉ ay):ay.findIdx? (fun c=>Nat.beq c b)=none:=by
 rw[List.findIdx?_eq_none_iff];intro c hc;cases hb:Nat.beq c b with
 |false=>rfl
 |true=>rw[Nat.eq_of_beq_eq_true hb]at hc;exact absurd hc h
theorem Bs {i b:Nat} (h:ay.findIdx? (fun c=>Nat.beq c b)=some i):ay[i]?=some b:=by
 rw[List.findIdx?_eq_some_iff_getElem]at h;obtain⟨hi,hb,-⟩:=h;rw[List.getElem?_eq_getElem hi,Nat.eq_of_beq_eq_true hb]
theorem G8 (hnd:ay.Nodup) (hlt:∀b∈ay,b<n) {γs:Gh} (i:Nat):xi ay n γ γs (nV ay n i)=γs i:=by
 unfold nV;cases hi:ay[i]? with
 |some b =>
  simp only[xi,Br hnd hi]
 |none =>
  have hle:ay.length≤i:=by
   apply Classical.byContradiction;intro hn;rw[List.getElem?_eq_getElem (by omega)]at hi;cases hi
  have hnk:n+(i-ay.length) ∉ ay:=fun h=>by have:=hlt _ h;omega
  simp only[xi,qe hnk];rw[if_neg (by omega)];congr 1;omega
theorem Am:∀(bs:List Nat) (ks μ:AM),bs.length≤ks.length→(uq ay n bs ks μ).length=μ.length+(ks.length-bs.length)
 |[],ks,μ,_=>by simp[uq]
 |b::bs,[],μ,h=>by simp at h
 |b::bs,k::ks,μ,h=>by
  rw[uq,Am bs ks _ (by simpa using h)];simp
theorem zh:∀(bs:List Nat) (ks μ:AM),bs.length≤ks.length→bs.Nodup→(∀b∈bs,b<μ.length)→∀b k',(uq ay n bs ks μ)[b]?=some k' →
  (∃(i:Nat) (k:eN),bs[i]?=some b∧ks[i]?=some k∧k'=pL ay n k)∨(b<μ.length∧b ∉ bs∧μ[b]?=some k')∨(μ.length≤b∧∃k:eN,ks[bs.length+(b-μ.length)]?=some k∧k'=pL ay n k)
 |[],ks,μ,_,_,_,b,k',h=>by
  simp only[uq]at h;by_cases hb:b<μ.length
  ·rw[List.getElem?_append_left hb]at h;exact .inr (.inl ⟨hb,by simp,h⟩)
  rw[List.getElem?_append_right (by omega),List.getElem?_map]at h;obtain⟨k,h1,h2⟩:=Option.map_eq_some_iff.mp h;exact .inr (.inr ⟨by omega,k,by simpa using h1,h2.symm⟩)
 |c::bs,[],μ,h0,_,_,b,k',h=>by simp at h0
 |c::bs,k::ks,μ,h0,hnd,hlt,b,k',h=>by
  rw[List.nodup_cons]at hnd;have hc:=hlt c List.mem_cons_self;rcases zh bs ks _ (by simpa using h0) hnd.2 (fun b hb=>by rw[List.length_set];exact hlt b (List.mem_cons_of_mem _ hb)) b k' h with⟨i,k1,h1,h2,h3⟩|⟨h1,h2,h3⟩|⟨h1,k1,h2,h3⟩
  ·exact .inl ⟨i+1,k1,h1,h2,h3⟩
  ·rw[List.length_set]at h1;by_cases hcb:c=b
   ·subst hcb;rw[List.getElem?_set_self hc]at h3;injection h3 with h3
    exact .inl ⟨0,k,rfl,rfl,h3.symm⟩
   rw[List.getElem?_set_ne hcb]at h3;exact .inr (.inl ⟨h1,by simp only[List.mem_cons,not_or];exact⟨Ne.symm hcb,h2⟩,h3⟩)
  rw[List.length_set]at h1 h2;exact .inr (.inr ⟨h1,k1,by rw[←h2];simp only[List.length_cons];rw[show bs.length+1+(b-μ.length)=bs.length+(b-μ.length)+1 by omega];rfl,h3⟩)
theorem xj {μ:AM}:∀(bs:List Nat) (ks:AM) (j:Nat),xh ay n μ j bs ks→bs.length=ks.length∧∀(i:Nat) b k,bs[i]?=some b→ks[i]?=some k→μ[b]?=some (pL ay n k)
 |[],[],_,_=>⟨rfl,fun i b k h=>by simp at h⟩
 |[],_::_,_,h=>h.elim
 |_::_,[],_,h=>h.elim
 |b::bs,k::ks,j,h=>by
  obtain⟨h1,h2⟩:=xj bs ks (j+1) h.2;refine⟨by simp[h1],fun i b' k' hb hk=>?_⟩;cases i with
  |zero=>injection hb with hb;injection hk with hk;subst hb hk;exact h.1
  |succ i=>exact h2 i b' k' hb hk
theorem vo {γs:Gh} {b:Nat} {e:tG} (h:xi ay n γ γs b=some e):(∃i,nV ay n i=b∧γs i=some e)∨(b<n∧b ∉ ay∧γ b=some e):=by
 unfold xi at h;split at h
 ·rename_i i hi;refine .inl ⟨i,?_,h⟩;unfold nV;rw[Bs hi]
 rename_i hf;rw[List.findIdx?_eq_none_iff]at hf;have hnk:b ∉ ay:=fun hb=>by have:=hf b hb;rw[Nat.beq_refl]at this;cases this
 split at h
 ·exact .inr ⟨by assumption,hnk,h⟩
 refine .inl ⟨_,?_,h⟩;unfold nV;rw[List.getElem?_eq_none (by omega)];simp only;omega
theorem vp {γs:Gh} {b:Nat} (h1:b ∉ ay) (h2:b<n):xi ay n γ γs b=γ b:=by
 unfold xi;rw[qe h1];simp only;rw[if_pos h2]
def CC (ay:List Nat) (γ:Gh):Gh:=fun i=>(ay[i]?).bind γ
theorem lg {i:Nat} {e:tG} (h:CC ay γ i=some e):∃b,ay[i]?=some b∧γ b=some e:=by
 obtain⟨b,h1,h2⟩:=Option.bind_eq_some_iff.mp h;exact⟨b,h1,h2⟩
variable {μ μs:AM}
theorem Gs (hW:Wd C w0 S γ μ w) (hnd:ay.Nodup) (hh:xh ay μ.length μ 0 ay μs) (hok:aS μs μs.length=true):(∀i e,i<μs.length→γ (nV ay μ.length i)=some e→CC ay γ i=some e)∧Wd C w0 S (CC ay γ) μs w:=by
 obtain⟨hkl,hat⟩:=xj ay μs 0 hh;have hem:∀i e,i<μs.length→γ (nV ay μ.length i)=some e→CC ay γ i=some e:=fun i e hi he=>by
  unfold CC;have hk:ay[i]?=some ay[i]:=List.getElem?_eq_getElem (by omega);unfold nV at he;rw[hk]at he ⊢;exact he
 have hki:∀{i:Nat} {k:eN},μs[i]?=some k→∃b,ay[i]?=some b∧μ[b]?=some (pL ay μ.length k)∧CC ay γ i=γ b:=fun {i k} hk=>by
  have hi:=(List.getElem?_eq_some_iff.mp hk).1;have hb:ay[i]?=some ay[i]:=List.getElem?_eq_getElem (by omega);exact⟨_,hb,hat i _ k hb hk,by unfold CC;rw[hb];rfl⟩
 have hcell:∀{i:Nat} {k:eN},μs[i]?=some k→∀a∈k.cells,cZ 3 μs.length a=true:=fun {i k} hk a ha=>by
  have:=List.all_eq_true.mp hok k (List.mem_of_getElem? hk);exact List.all_eq_true.mp this a ha
 refine⟨hem,⟨⟨fun i k hk hz=>?_,fun i k hk hz=>?_,fun i hi=>?_,fun i j e e' h1 h2 h3=>?_⟩,hW.below,hW.live,hW.env⟩⟩
 ·obtain⟨b,h1,h2,h3⟩:=hki hk;obtain⟨e,cs,q1,q2,q3,q4,q5,q6,q7,q8,q9⟩:=hW.mem.blk b _ h2 hz;refine⟨e,cs,h3.trans q1,q2,q3,q4,q5,by simpa [pL]using q6,fun j a ha=>?_,q8,q9⟩;obtain⟨v,r1,r2,r3⟩:=q7 j (nh ay μ.length 3 a) (by simp only[pL,List.getElem?_map,ha];rfl);exact⟨v,r1,sw 3 (hcell hk a (List.mem_of_getElem? ha)) hem r2,r3⟩
 ·obtain⟨b,h1,h2,h3⟩:=hki hk;obtain⟨e,q1,q2,q3,⟨es,clock,r1,r2,r3⟩,q8,q9⟩:=hW.mem.mp b _ h2 hz;refine⟨e,h3.trans q1,q2,q3,⟨es,clock,r1,⟨by simpa [pL]using r2.len,fun j a v ha hv=>?_⟩,r3⟩,q8,q9⟩;exact sw 3 (hcell hk a (List.mem_of_getElem? ha)) hem (r2.at_ j (nh ay μ.length 3 a) v (by simp only[pL,List.getElem?_map,ha];rfl) hv)
 ·unfold CC;rw[List.getElem?_eq_none (by omega)];rfl
 obtain⟨b,g1,g2⟩:=lg h1;obtain⟨b',g3,g4⟩:=lg h2;have:=hW.mem.inj b b' e e' g2 g4 h3;subst this;have hi:=(List.getElem?_eq_some_iff.mp g1).1;exact(List.getElem?_inj hi hnd).mp (g1.trans g3.symm)
theorem An {as:List AV} {vs:List Value} {γs:Gh} {m:Nat} (has:∀a∈as,cZ 3 m a=true) (hem:∀i e,i<m→γ (nV ay n i)=some e→γs i=some e) (hp:PW (VR w S γ) (as.map (nh ay n 3)) vs):PW (VR w S γs) as vs :=
 ⟨by simpa using hp.len,fun i a v ha hv=>sw 3 (has a (List.mem_of_getElem? ha)) hem (hp.at_ i _ v (by rw[List.getElem?_map,ha];rfl) hv)⟩
theorem Ao (hW : Wd C w0 S γ μ w) (hnd : ay.Nodup) (hlt : ∀ b ∈ ay, b < μ.length) {μs' : AM} (hlen : ay.length ≤ μs'.length) {w' : World} {S' : Nat → Prop} {γs' : Gh} (hE : Ext w S (CC ay γ) w' S' γs') (hW' : Wd C w0 S' γs' μs' w') :
    Ext w S γ w' S' (xi ay μ.length γ γs') ∧ Wd C w0 S' (xi ay μ.length γ γs') (uq ay μ.length ay μs' μ) w' ∧ ∀ i e, γs' i = some e → xi ay μ.length γ γs' (nV ay μ.length i) = some e := by
  have hup : ∀ i e, γs' i = some e → xi ay μ.length γ γs' (nV ay μ.length i) = some e := fun i e h => by rw [G8 hnd hlt]; exact h
  have hcbl : ∀ b e, γ b = some e → b < μ.length ∧ e.cb < w.heap.size := fun b e h => by
    have hb : b < μ.length := by
      apply Classical.byContradiction
      intro hn
      rw [hW.mem.none b (by omega)] at h
      cases h
    obtain ⟨e0, q1, -, -, q4, -⟩ := hW.mem.CB (List.getElem?_eq_getElem hb)
    rw [h] at q1
    injection q1 with q1
    subst q1
    exact ⟨hb, q4⟩
  have hEx : Ext w S γ w' S' (xi ay μ.length γ γs') := by
    refine ⟨hE.stay, fun b e he => ?_, fun g hg => ?_, fun b e' he => ?_, hE.size, fun g hg hn => hE.frame g hg fun i e h => by obtain ⟨b, -, h2⟩ := lg h; exact hn b e h2⟩
    · by_cases hb : b ∈ ay
      · obtain ⟨i, hi⟩ := List.getElem?_of_mem hb
        have h1 : CC ay γ i = some e := by unfold CC; rw [hi]; exact he
        obtain ⟨e', g1, g2, g3⟩ := hE.gh i e h1
        have h2 : nV ay μ.length i = b := by unfold nV; rw [hi]
        exact ⟨e', h2 ▸ hup i e' g1, g2, g3⟩
      exact ⟨e, (vp hb (hcbl b e he).1).trans he, Nat.le_refl _, fun _ => rfl⟩
    · rcases hE.more g hg with h | ⟨i, e, h1, h2⟩ | h
      · exact .inl h
      · obtain ⟨b, -, h3⟩ := lg h1
        exact .inr (.inl ⟨b, e, h3, h2⟩)
      exact .inr (.inr h)
    rcases vo he with ⟨i, -, h1⟩ | ⟨-, -, h1⟩
    · rcases hE.cbs i e' h1 with ⟨i0, e, h2, h3⟩ | h2
      · obtain ⟨b0, -, h4⟩ := lg h2
        exact .inl ⟨b0, e, h4, h3⟩
      exact .inr h2
    exact .inl ⟨b, e', h1, rfl⟩
  have hside : ∀ b e, b ∉ ay → γ b = some e → (∀ i e2, CC ay γ i = some e2 → e2.cb ≠ e.cb) := fun b e hb he i e2 h2 hc => by
    obtain ⟨b2, h3, h4⟩ := lg h2
    have := hW.mem.inj b2 b e2 e h4 he hc
    subst this
    exact hb (List.mem_of_getElem? h3)
  have hnS : ∀ b e, b ∉ ay → γ b = some e → ¬ S e.cb → ¬ S' e.cb := fun b e hb he hs hs' => by
    rcases hE.more _ hs' with h | ⟨i, e2, h1, h2⟩ | h
    · exact hs h
    · exact hside b e hb he i e2 h1 h2
    have := (hcbl b e he).2
    omega
  refine ⟨hEx, ⟨⟨fun b k' hk' hz' => ?_, fun b k' hk' hz' => ?_, fun b hb => ?_, fun b b' e e' h1 h2 h3 => ?_⟩, hW'.below, hW'.live, hW'.env⟩, hup⟩
  · have small : ∀ (i : Nat) (k : eN), nV ay μ.length i = b → μs'[i]? = some k → k' = pL ay μ.length k → ∃ e cs, xi ay μ.length γ γs' b = some e ∧ e.gen = k'.gen ∧ e.sz = k'.sz ∧ oS w' e.cb cs k' ∧ cs.size = e.cap ∧ k'.cells.length ≤ e.cap ∧
        (∀ (i : Nat) a, k'.cells[i]? = some a → ∃ v, cs[i]? = some v ∧ VR w' S' (xi ay μ.length γ γs') a v ∧ v.oneCell' = true) ∧ w0.heap.size ≤ e.cb ∧ (k'.frozen = false → ¬ S' e.cb) := fun i k hi hk hkk => by
      subst hkk
      obtain ⟨e, cs, q1, q2, q3, q4, q5, q6, q7, q8, q9⟩ := hW'.mem.blk i k hk hz'
      refine ⟨e, cs, hi ▸ hup i e q1, q2, q3, q4, q5, by simpa [pL] using q6, fun j a ha => ?_, q8, q9⟩
      simp only [pL, List.getElem?_map] at ha
      obtain ⟨a0, g1, rfl⟩ := Option.map_eq_some_iff.mp ha
      obtain ⟨v, r1, r2, r3⟩ := q7 j a0 g1
      exact ⟨v, r1, ze 3 hup r2, r3⟩
    rcases zh ay μs' μ hlen hnd hlt b k' hk' with ⟨i, k, h1, h2, h3⟩ | ⟨h1, h2, h3⟩ | ⟨h1, k, h2, h3⟩
    · exact small i k (by unfold nV; rw [h1]) h2 h3
    · obtain ⟨e, cs, q1, q2, q3, q4, q5, q6, q7, q8, q9⟩ := hW.mem.blk b k' h3 hz'
      refine ⟨e, cs, (vp h2 h1).trans q1, q2, q3, q4.congr (hE.frame e.cb (hcbl b e q1).2 (hside b e h2 q1)) rfl id, q5, q6, fun j a ha => ?_, q8, fun hf => hnS b e h2 q1 (q9 hf)⟩
      obtain ⟨v, r1, r2, r3⟩ := q7 j a ha
      exact ⟨v, r1, r2.ext hEx, r3⟩
    exact small _ k (by unfold nV; rw [List.getElem?_eq_none (by omega)]; simp only; omega) h2 h3
  · have small : ∀ (i : Nat) (k : eN), nV ay μ.length i = b → μs'[i]? = some k → k' = pL ay μ.length k → ∃ e, xi ay μ.length γ γs' b = some e ∧ e.gen = k'.gen ∧ e.sz = k'.sz ∧ wi w' S' (xi ay μ.length γ γs') k' e.cb ∧ w0.heap.size ≤ e.cb ∧ (k'.frozen = false → ¬ S' e.cb) := fun i k hi hk hkk => by
      subst hkk
      obtain ⟨e, q1, q2, q3, ⟨es, clock, r1, r2, r3⟩, q8, q9⟩ := hW'.mem.mp i k hk hz'
      refine ⟨e, hi ▸ hup i e q1, q2, q3, ⟨es, clock, r1, ⟨by simpa [pL] using r2.len, fun j a v ha hv => ?_⟩, r3⟩, q8, q9⟩
      simp only [pL, List.getElem?_map] at ha
      obtain ⟨a0, g1, rfl⟩ := Option.map_eq_some_iff.mp ha
      exact ze 3 hup (r2.at_ j a0 v g1 hv)
    rcases zh ay μs' μ hlen hnd hlt b k' hk' with ⟨i, k, h1, h2, h3⟩ | ⟨h1, h2, h3⟩ | ⟨h1, k, h2, h3⟩
    · exact small i k (by unfold nV; rw [h1]) h2 h3
    · obtain ⟨e, q1, q2, q3, q4, q8, q9⟩ := hW.mem.mp b k' h3 hz'
      exact ⟨e, (vp h2 h1).trans q1, q2, q3, q4.ext hEx (hE.frame e.cb (hcbl b e q1).2 (hside b e h2 q1)), q8, fun hf => hnS b e h2 q1 (q9 hf)⟩
    exact small _ k (by unfold nV; rw [List.getElem?_eq_none (by omega)]; simp only; omega) h2 h3
  · rw [Am ay μs' μ hlen] at hb
    unfold xi
    rw [qe fun h => by have := hlt b h; omega]
    simp only
    rw [if_neg (by omega)]
    exact hW'.mem.none _ (by omega)
  have cross : ∀ {b b' : Nat} {e e' : tG} {i : Nat}, γs' i = some e → b' ∉ ay → γ b' = some e' → e.cb = e'.cb → False := fun {b b' e e' i} h1 h2 h3 h4 => by
    rcases hE.cbs i e h1 with ⟨i0, e0, g1, g2⟩ | g1
    · exact hside b' e' h2 h3 i0 e0 g1 (g2.trans h4)
    have := (hcbl b' e' h3).2
    omega
  rcases vo h1 with ⟨i, q1, q2⟩ | ⟨q1, q2, q3⟩ <;> rcases vo h2 with ⟨j, r1, r2⟩ | ⟨r1, r2, r3⟩
  · have := hW'.mem.inj i j e e' q2 r2 h3
    subst this
    rw [← q1, ← r1]
  · exact (cross (b := b) q2 r2 r3 h3).elim
  · exact (cross (b := b) r2 q2 q3 h3.symm).elim
  exact hW.mem.inj b b' e e' q3 r3 h3
theorem aF.frame {f:FuncId} {al:List AV} {r:AV} {μs':AM} (h:aF C f al μs r μs') (ay:List Nat) (μ:AM) (hnd:ay.Nodup) (hlt:∀b∈ay,b<μ.length) (hh:xh ay μ.length μ 0 ay μs) (hok:aS μs μs.length=true) (hal:∀a∈al,cZ 3 μs.length a=true) (hlen:ay.length≤μs'.length) :
  aF C f (al.map (nh ay μ.length 3)) μ (nh ay μ.length 3 r) (uq ay μ.length ay μs' μ):=by
 refine⟨h.1,fun w0 S γ w vs hW hp=>?_⟩;obtain⟨hem,hWs⟩:=Gs hW hnd hh hok;refine(h.2 w0 S _ w vs hWs (An hal hem hp)).mono fun e w' hh'=>?_
 obtain⟨v,S',γs',he,hE,hW',hv⟩:=hh';obtain⟨h1,h2,h3⟩:=Ao hW hnd hlt hlen hE hW';exact⟨v,S',_,he,h1,h2,ze 3 h3 hv⟩
theorem pd.frame {f:FuncId} {al:List AV} {c:List PanicEntry} {Post:AM→Prop} (h:pd C f al μs c Post) (ay:List Nat) (μ:AM) (hnd:ay.Nodup) (hlt:∀b∈ay,b<μ.length) (hh:xh ay μ.length μ 0 ay μs) (hok:aS μs μs.length=true) (hal:∀a∈al,cZ 3 μs.length a=true) (hP:∀μ',Post μ'→ay.length≤μ'.length) :
  pd C f (al.map (nh ay μ.length 3)) μ c (fun μ'=>∃μs',Post μs'∧μ'=uq ay μ.length ay μs' μ):=by
 refine⟨h.1,fun w0 S γ w vs hW hp=>?_⟩;obtain⟨hem,hWs⟩:=Gs hW hnd hh hok;refine(h.2 w0 S _ w vs hWs (An hal hem hp)).mono fun e w' hh'=>?_
 obtain⟨S',γs',μs',he,hE,hW',hp'⟩:=hh';obtain⟨h1,h2,-⟩:=Ao hW hnd hlt (hP _ hp') hE hW';exact⟨S',_,_,he,h1,h2,μs',hp',rfl⟩
end
end
section
def isApp:K→Bool
 | .append _ _ _ _ _=>true
 |_=>false
theorem zi {P:Program} {op:BinOp} {t:TypeId} {x y:Operand} {k:K} (hk:gG P op t x y=some k) (h:isApp k=true):False:=by
 unfold gG at hk;repeat' split at hk
 all_goals first
  |(cases hk;done)
  |(injection hk with hk;subst hk;cases h;done)
  |(obtain⟨_,hk⟩:=bB hk;first|(cases hk;done)|(injection hk with hk;subst hk;cases h;done))
theorem vq {P:Program} {c:Call} {a b:b5} {e:TypeId} {sz by_:Nat} (hk:cL P c=some (.append a b e sz by_)) :
  ∃s x t i z,c={callee:=.builtin .append,args:=#[s,x],argTypes:=#[t,t]}∧P.underlying t=some (.slice e)∧aA s=some a∧aA x=some b∧P.info? e=some i∧jo P e=some z∧1≤i.size∧i.size=sz∧i.bytes=by_:=by
 obtain⟨cal,args,tys⟩:=c;obtain⟨args⟩:=args;obtain⟨tys⟩:=tys;unfold cL at hk;split at hk
 ·obtain⟨_,_,h2⟩:=map_some hk;cases h2
 ·obtain⟨_,_,h2⟩:=map_some hk;cases h2
 ·cases hk
 ·cases hk
 rename_i bb hcal;simp only at hcal;subst hcal;unfold dU at hk;simp only at hk;split at hk
 ·repeat' split at hk
  all_goals cases hk
 ·repeat' split at hk
  all_goals cases hk
 ·repeat' split at hk
  all_goals cases hk
 ·rename_i s x t u;split at hk
  ·rename_i e1 a1 b1 hu h1 h2 htu;have htu:=Nat.eq_of_beq_eq_true htu;subst htu;split at hk
   ·rename_i i z hi hz;obtain⟨hs1,hk⟩:=aG hk;injection hk with hk
    injection hk with k1 k2 k3 k4 k5
    subst k1 k2 k3 k4 k5;exact⟨s,x,t,i,z,rfl,hu,h1,h2,hi,hz,Nat.le_of_ble_eq_true hs1,rfl,rfl⟩
   cases hk
  ·split at hk
   ·obtain⟨_,hk⟩:=aG hk;cases hk
   cases hk
  cases hk
 cases hk
theorem Bt {P:Program} {own:Bool} {op:Op} {a b:b5} {e:TypeId} {sz by_:Nat} (hk:ir P own op=some (.append a b e sz by_)) :
  ∃s x t i z,op= .call {callee:=.builtin .append,args:=#[s,x],argTypes:=#[t,t]}∧P.underlying t=some (.slice e)∧aA s=some a∧aA x=some b∧P.info? e=some i∧jo P e=some z∧1≤i.size∧i.size=sz∧i.bytes=by_:=by
 cases op<;>simp only[ir]at hk;case call c =>
  have hc:cL P c=some (.append a b e sz by_):=by
   split at hk
   ·rcases ju hk with hk|⟨g,as,-,-,h⟩
    ·exact hk
    cases h
   exact hk
  obtain⟨s,x,t,i,z,h1,h2⟩:=vq hc;exact⟨s,x,t,i,z,by rw[h1],h2⟩
 all_goals exfalso
 all_goals repeat' split at hk
 all_goals first
  |(cases hk;done)
  |(exact zi hk rfl)
  |contradiction
  |(injection hk with hk;cases hk;done)
  |(obtain⟨_,_,h2⟩:=map_some hk;cases h2;done)
  |(obtain⟨_,hk⟩:=aG hk;cases hk;done)
  |(obtain⟨_,hk⟩:=aG hk;obtain⟨_,_,h2⟩:=map_some hk;cases h2;done)
  |(rcases mN hk with⟨_,h2⟩|⟨_,h2⟩<;>cases h2)
section
variable {C:Ctx} {w0 w:World} {S:Nat→Prop} {γ:Gh} {μ:AM} {f:AF} {a:Act} {o:Oper} {ops:Array Oper}
theorem sy (t ty e:TypeId) (i:TypeInfo) (ht:C.P.underlying t=some (.slice e)) (hi:C.P.info? e=some i)
  (g off sLen sCap:Nat) (cur:Array Value) (hg:w.heap[g]?=some (.cells cur e (0,0)))
  (a:Addr) (m c:Nat) (news:List Value) (hl:news.length=m*i.size) (hnews:∀j u,news[j]?=some u→w.cell? (a.add j)=some u) (h1:∀u∈news,u.oneCell'=true)
  (hroom:sLen+m≤sCap) (hfit:off+sLen*i.size+news.length≤cur.size) :
  (Builtin.append_ #[t,t] ty #[.slice (some ⟨g,off,none⟩) sLen sCap,.slice (some a) m c]).run C.P w =
   .ok (.slice (some ⟨g,off,none⟩) (sLen+m) sCap) (w.setRow g (cur.toList.take (off+sLen*i.size)++news++cur.toList.drop (off+sLen*i.size+news.length)).toArray):=by
 have hf:=run_firstCells_some (P:=C.P) w i.size m a m c news hl hnews;have hst:=run_storeCells_at C.P g (off+sLen*i.size) e news 0 cur w hg (by simpa using hfit) h1;simp only[Nat.add_zero]at hst;simp[Builtin.append_,run_underlying ht,sizeOf,typeInfo,hi,Builtin.lenOf,hroom,hf,Addr.add_lit,hst]
theorem qf {s x:Operand} {s' x':b5} {t e:TypeId} {i:TypeInfo} {z:List PV} {m n size bytes b g off:Nat} {k:eN} {vc:VC} {cs:List AV} (hW:Wd C w0 S γ μ w) (ho:o.op= .call {callee:=.builtin .append,args:=#[s,x],argTypes:=#[t,t]})
  (hs:aA s=some s') (hx:aA x=some x') (ht:C.P.underlying t=some (.slice e)) (hi:C.P.info? e=some i) (hz:jo C.P e=some z) (hs1:size≠0) (hsz:i.size=size) (hby:i.bytes=bytes)
  (hp:ev f s'= .ref b g off n) (hk:μ[b]?=some k) (hfz:k.frozen=false) (hksz:k.sz=size) (hkel:k.elem=e) (hg:g=k.gen) (hnl:off+n*size=k.cells.length) (hn0:0<n)
  (hsrc:gO μ size (ev f x')=some (vc,cs,m)) (hvc:az vc) (hb:(n+m)*bytes≤140737488355328) (hI:((n+m:Nat):Int)≤jH) (hf:Reads w S γ f a (.append s' x' e size bytes)) :
  b6 C w0 o a S γ (.ref b (k.gen+1) off (n+m)) (μ.set b {k with cells:=k.cells++cs,gen:=k.gen+1}) w ∨
  b6 C w0 o a S γ (.ref b (k.gen+1) 0 (n+m)) (μ.set b {k with cells:=k.cells.drop off++cs,gen:=k.gen+1}) w:=by
 have k1:=aR (w:=w) (S:=S) (γ:=γ) hs fun t ht=>hf t (by simp[tmpsOf,ht])
 have k2:=aR (w:=w) (S:=S) (γ:=γ) hx fun t ht=>hf t (by simp[tmpsOf,ht])
 rw[hp]at k1;have k3:=pV hW hsrc hvc k2;obtain⟨en,cs0,he,hgen,hesz,hheap,hcs,hkl,hcells,hB,hS⟩:=hW.mem.blk b k hk (by omega);replace hheap:=hheap.free hfz;have hshape:∃cap,a.eval s= .slice (some ⟨en.cb,off,none⟩) n cap∧off+cap*en.sz=en.cap∧n≤cap∧cap≤maxLen:=by
  generalize a.eval s=sv at k1;cases k1 with
  |ref _ _ _ _ _ e' ad c hb hg' hvc' hs' =>
   rw[he]at hb;injection hb with hb;subst hb
   rcases hs' (by omega) with h|⟨h,-,-⟩
   ·exact h
   omega
 obtain⟨cap,hsv,hcapc,hncap,hcapm⟩:=hshape;subst hkel;have hmm:n+m≤maxLen:=by simp only[maxLen];unfold jH at hI;omega
 have hVR:∀{γ':Gh} {c':Nat} {cb sz' cap' o':Nat},γ' b=some ⟨k.gen+1,cb,cap',sz'⟩→o'+c'*sz'=cap'→n+m≤c'→c'≤maxLen→∀{w'},VR w' S γ' (.ref b (k.gen+1) o' (n+m)) (.slice (some ⟨cb,o',none⟩) (n+m) c'):=by
  intro γ' c' cb sz' cap' o' h1 h2 h3 h4 w';exact .ref _ _ _ _ _ _ ⟨cb,o',none⟩ c' h1 (Nat.le_refl _) ⟨rfl,h3⟩ fun _=>.inl ⟨c',rfl,h2,h3,h4⟩
 have hkcs:cs0.size=off+cap*size:=by rw[hcs,←hcapc,hesz,hksz]
 rcases k3 with⟨rfl,rfl,hu⟩|⟨ad,c,news,hu,hl,hpw,hcell,hone⟩
 ·have hr:=jJ (C:=C) (w:=w) (ty:=o.type) (base:=some ⟨en.cb,off,none⟩) ht hi hncap (src:=.slice none 0 0) (.inl rfl);obtain⟨hW',hE⟩:=hW.move (avs:=k.cells++[]) (ncs:=cs0) (cb:=en.cb) (w':=w) hk he (by omega) hfz rfl rfl rfl (Nat.le_refl _) (fun _ _ _=>rfl) (.inl rfl) hheap (by rw[List.append_nil];omega) (by rw[List.append_nil];exact hcells);exact .inl ⟨_,_,_,S,_,ff ho hsv hu hr,.inl rfl,hE,hW',hVR (cT _ _ _) (by rw[hksz];exact hkcs.symm) hncap hcapm⟩
 by_cases hroom:n+m≤cap
 ·have hmul:=Nat.mul_le_mul_right size hroom;rw[Nat.add_mul]at hmul;have hfit:off+n*i.size+news.length≤cs0.size:=by rw[hsz,hl,hkcs];omega
  have hr:=sy (C:=C) (w:=w) t o.type k.elem i ht hi en.cb off n cap cs0 hheap ad m c news (by rw[hsz];exact hl) hcell hone hroom hfit;generalize hnc:(cs0.toList.take (off+n*i.size)++news++cs0.toList.drop (off+n*i.size+news.length)).toArray=ncs at hr;rw[hsz]at hnc hfit;have hncs:ncs.size=cs0.size:=by
   rw[←hnc];simp only[List.size_toArray,List.length_append,List.length_take,List.length_drop,Array.length_toList];omega
  obtain⟨hW',hE⟩:=hW.move (avs:=k.cells++cs) (ncs:=ncs) (cb:=en.cb) (w':=w.setRow en.cb ncs) hk he (by omega) hfz rfl rfl rfl (by simp) (fun g _ h=>setRow_other w en.cb g ncs h) (.inl rfl) (setRow_heap w en.cb cs0 ncs k.elem (0,0) hheap)
   (by rw[List.length_append,hncs,hpw.len];omega) (fun j y hy=>by
    by_cases hj:j<k.cells.length
    ·rw[List.getElem?_append_left hj]at hy;obtain⟨v,g1,g2,g3⟩:=hcells j y hy;refine⟨v,?_,g2,g3⟩;rw[←g1,←hnc,List.getElem?_toArray,List.append_assoc,List.getElem?_append_left (by simp;omega),List.getElem?_take,if_pos (by omega),Array.getElem?_toList]
    rw[List.getElem?_append_right (by omega)]at hy;have hjm:j-k.cells.length<news.length:=by rw[←hpw.len];exact(List.getElem?_eq_some_iff.mp hy).1
    refine⟨news[j-k.cells.length],?_,hpw.at_ _ y _ hy (List.getElem?_eq_getElem hjm),hone _ (List.getElem_mem hjm)⟩;rw[←hnc,List.getElem?_toArray,List.getElem?_append_left (by simp;omega),List.getElem?_append_right (by simp;omega),←List.getElem?_eq_getElem hjm];congr 1;simp;omega)
  exact .inl ⟨_,_,_,S,_,ff ho hsv hu hr,.inl rfl,hE,hW',hVR (cT _ _ _) (by rw[hksz,hncs];exact hkcs.symm) hroom hcapm⟩
 obtain⟨i',zv,hi',hzv,hzl,hzlen,-⟩:=iv (w:=w) hz;rw[hi]at hi';injection hi' with hi';subst hi'
 have hncm:=Nat.mul_le_mul_right size hncap;have holdl:((cs0.toList.drop off).take (n*size)).length=n*i.size:=by rw[hsz,List.length_take,List.length_drop,Array.length_toList];omega
 have hr:=run_append_grow (P:=C.P) w t o.type k.elem i zv ht hi hzv ⟨en.cb,off,none⟩ n cap ((cs0.toList.drop off).take (n*size)) holdl (fun j v hj=>by
  rw[List.getElem?_take]at hj;split at hj
  ·rw[List.getElem?_drop]at hj;rw[Addr.add_lit,World.cell?,hheap];rw[Array.getElem?_toList]at hj;exact hj
  cases hj) ad m c news (by rw[hsz];exact hl) hcell (by omega) (by unfold jH at hI;exact hI) (growslice_fits (by omega) (by rw[hby];exact hb))
 have hge:=grownCap_ge w (n+m) cap k.elem;have hgm:=grownCap_le_maxLen w (n+m) cap k.elem hmm;generalize hG:grownCap w (n+m) cap k.elem=G at hr hge hgm;have hzc:zv.cells.size=size:=by
  have:=(dt (w:=w) (S:=S) hzl).len;simp at this;omega
 generalize hnc:((cs0.toList.drop off).take (n*size)).toArray++news.toArray++Builtin.zeroCells zv.cells (G-(n+m))=ncs at hr;have hncs:ncs.size=G*size:=by
  rw[←hnc];simp only[Array.size_append,List.size_toArray,size_zeroCells,hzc,holdl,hl,hsz,←Nat.add_mul];rw[show n+m+(G-(n+m))=G by omega]
 have hle:(n+m)*size≤G*size:=Nat.mul_le_mul_right _ hge;rw[Nat.add_mul]at hle;rw[hsz]at holdl;obtain⟨hW',hE⟩:=hW.move (avs:=k.cells.drop off++cs) (ncs:=ncs) (cb:=w.heap.size) (w':=w.drew.alloc (.cells ncs k.elem)) hk he (by omega) hfz rfl rfl rfl (by simp) (fun g hg _=>Below.heap_alloc w.drew _ g hg) (.inr (Nat.le_refl _)) (heap_alloc_new w.drew _)
  (by rw[List.length_append,List.length_drop,hncs,hpw.len];omega) (fun j y hy=>by
   by_cases hj:j<n*size
   ·rw[List.getElem?_append_left (by rw[List.length_drop];omega),List.getElem?_drop]at hy;obtain⟨v,g1,g2,g3⟩:=hcells (off+j) y hy;refine⟨v,?_,g2,g3⟩;rw[←g1,←hnc,Array.append_assoc,Array.getElem?_append_left (by rw[List.size_toArray];omega),List.getElem?_toArray,List.getElem?_take,if_pos hj,List.getElem?_drop,Array.getElem?_toList]
   rw[List.getElem?_append_right (by rw[List.length_drop];omega),List.length_drop]at hy;have hjm:j-(k.cells.length-off)<news.length:=by rw[←hpw.len];exact(List.getElem?_eq_some_iff.mp hy).1
   refine⟨news[j-(k.cells.length-off)],?_,hpw.at_ _ y _ hy (List.getElem?_eq_getElem hjm),hone _ (List.getElem_mem hjm)⟩;rw[←hnc,Array.getElem?_append_left (by rw[Array.size_append,List.size_toArray,List.size_toArray];omega),Array.getElem?_append_right (by rw[List.size_toArray];omega),List.getElem?_toArray,←List.getElem?_eq_getElem hjm];congr 1;rw[List.size_toArray];omega)
 exact .inr ⟨_,_,_,S,_,ff ho hsv hu hr,.inl rfl,hE,hW',hVR (cT _ _ _) (by rw[hksz,hncs,Nat.zero_add]) hge hgm⟩
def C0 (C:Ctx) (own:Nat→Bool) (n:Nat) (ops:Array Oper) (op:dc) (f1:AF) (μ1:AM) (v:AV) (μ2:AM) (v':AV) (μ3:AM):Prop :=
 ∀(o:Oper) (w0:World) (S:Nat→Prop) (γ:Gh) (w:World) (a:Act) (K':Act→World→Prop) (Q:Exit→Act→World→Prop),fh C.P own n ops o=some op→Wd C w0 S γ μ1 w→FR C.D n w S γ f1 a →
  (∀u w' S' γ',Ext w S γ w' S' γ'→Wd C w0 S' γ' μ2 w'→VR w' S' γ' v u→K' (a.put o.dst u) w') →
  (∀u w' S' γ',Ext w S γ w' S' γ'→Wd C w0 S' γ' μ3 w'→VR w' S' γ' v' u→K' (a.put o.dst u) w')→o.wp C.P a w K' Q
theorem C1 {n m id j:Nat} {own:Nat→Bool} {al:List dc} {cm cm2 cm3:Bool} {hs hs2 hs3:List (Nat×Hint)} {vc vc2 vc3:VC} {pr pr2 pr3:List Prop} {f1 f2 f3:AF} {μ1 μ2 μ2' μ3 μ3':AM} {R:Exit→AF→AM→Prop} {op:dc} {v v':AV} (hc:eO C.P own n ops ops.toList=some al)
  (hk:al[j]?=some op) (hg:op.guard=none) (he:bN (aq C) (aF C) cm false (al.take j) hs 0 [] [] f μ=some (vc,pr,f1,μ1)) (hvc:az vc) (hpr:aB pr) (hop:C0 C own n ops op f1 μ1 v μ2 v' μ3)
  (he2:bN (aq C) (aF C) cm2 false (al.drop (j+1)) hs2 0 [] [] (put f1 op.dst v) μ2=some (vc2,pr2,f2,μ2')) (hvc2:az vc2) (hpr2:aB pr2) (hR2:R .normal f2 μ2')
  (he3:bN (aq C) (aF C) cm3 false (al.drop (j+1)) hs3 0 [] [] (put f1 op.dst v') μ3=some (vc3,pr3,f3,μ3')) (hvc3:az vc3) (hpr3:aB pr3) (hR3:R .normal f3 μ3'):AW C n m (.region id ops false) R f μ:=by
 intro w0 S γ w a hW hF;refine wp_region ?_;obtain⟨-,F1,M1,V1,h1,h2,h3,h4,h5⟩:=cJ (al.take j) 0 [] [] f μ vc pr f1 μ1 he hvc hpr;obtain⟨hl,hat⟩:=eD hc;replace hl:al.length=ops.size:=hl.trans (Array.length_toList);have hjl:j<al.length:=(List.getElem?_eq_some_iff.mp hk).1;have hlt:(al.take j).length=j:=by rw[List.length_take];omega
 have hld:(al.drop (j+1)).length=ops.size-(j+1):=by rw[List.length_drop,hl]
 rw[Nat.zero_add,hlt]at h3 h4;have suf:∀{cm:Bool} {hs:List (Nat×Hint)} {f0 f2:AF} {μ0 μ2:AM} {vc:VC} {pr:List Prop},bN (aq C) (aF C) cm false (al.drop (j+1)) hs 0 [] [] f0 μ0=some (vc,pr,f2,μ2)→az vc→aB pr→R .normal f2 μ2 →
   ∀(S1:Nat→Prop) (γ1:Gh) (w1:World) (a1:Act),Ext w S γ w1 S1 γ1→Wd C w0 S1 γ1 μ0 w1→FR C.D n w1 S1 γ1 f0 a1→wpOps C.P ops (Ends C n m w0 w S γ R) (List.range' (j+1) (ops.size-(j+1))) a1 w1:=by
  intro cm hs f0 f2 μ0 μ2 vc pr he hvc hpr hR;obtain⟨-,F2,M2,V2,q1,q2,q3,q4,q5⟩:=cJ (al.drop (j+1)) 0 [] [] f0 μ0 vc pr f2 μ2 he hvc hpr;rw[Nat.zero_add,hld]at q3 q4;have go:∀(l i:Nat),i+l=ops.size-(j+1)→∀(S1:Nat→Prop) (γ1:Gh) (w1:World) (a1:Act),Ext w S γ w1 S1 γ1→Wd C w0 S1 γ1 (M2 i) w1→FR C.D n w1 S1 γ1 (F2 i) a1 →
    wpOps C.P ops (Ends C n m w0 w S γ R) (List.range' (j+1+i) l) a1 w1:=by
   intro l;induction l with
   |zero =>
    intro i hi S1 γ1 w1 a1 hE hW1 hF1;simp only[List.range'_zero];obtain rfl:i=ops.size-(j+1):=by omega
    rw[q4]at hW1;rw[q3]at hF1;exact⟨S1,γ1,f2,μ2,hE.toM m,hW1,hF1,hR⟩
   |succ l ih =>
    intro i hi S1 γ1 w1 a1 hE hW1 hF1;rw[List.range'_succ,wpOps_cons];have his:j+1+i<ops.size:=by omega
    have ho:ops[j+1+i]?=some ops[j+1+i]:=by simp[his]
    obtain⟨ao,hao,hco⟩:=hat (j+1+i) ops[j+1+i] (by rw[Array.getElem?_toList];exact ho);obtain⟨vcj,prj,k1,k2',k3,k4⟩:=q5 i ao (by rw[List.getElem?_drop];exact hao);rw[Nat.zero_add]at k1 k4;obtain⟨-,-,hdst,hlt',-⟩:=bH hco;refine dV ho (bF hW1 hco k1 k2' k3 (fun t _=>hF1.val t) fun u w3 S2 γ2 hE2 hW2 hv=>?_);have:=ih (i+1) (by omega) S2 γ2 w3 (a1.put (ops[j+1+i]).dst u) (hE.trans hE2) hW2 (by
     rw[k4,hdst];exact(hF1.ext hE2).put hv hlt')
    rw[show j+1+(i+1)=j+1+i+1 by omega]at this;exact this
  intro S1 γ1 w1 a1 hE hW1 hF1;exact go (ops.size-(j+1)) 0 (by omega) S1 γ1 w1 a1 hE (by rw[q2];exact hW1) (by rw[q1];exact hF1)
 have pre:∀(l i:Nat),i+l=j→∀(S1:Nat→Prop) (γ1:Gh) (w1:World) (a1:Act),Ext w S γ w1 S1 γ1→Wd C w0 S1 γ1 (M1 i) w1→FR C.D n w1 S1 γ1 (F1 i) a1→wpOps C.P ops (Ends C n m w0 w S γ R) (List.range' i (ops.size-i)) a1 w1:=by
  intro l;induction l with
  |zero =>
   intro i hi S1 γ1 w1 a1 hE hW1 hF1;obtain rfl:i=j:=by omega
   rw[show ops.size-i=(ops.size-(i+1))+1 by omega,List.range'_succ,wpOps_cons];have ho:ops[i]?=some ops[i]:=by simp[←hl,hjl]
   obtain⟨ao,hao,hco⟩:=hat i ops[i] (by rw[Array.getElem?_toList];exact ho);rw[hk]at hao;injection hao with hao
   subst hao;obtain⟨ow,hkk,hdst,hlt',-⟩:=bH hco;have hgo:(ops[i]).guard=none:=by
    cases hgu:(ops[i]).guard with
    |none=>rfl
    |some gb =>
     obtain⟨g0,b0⟩:=gb;obtain⟨t0,-,h0⟩:=jZ hco hgu;rw[hg]at h0;cases h0
   refine dV ho ?_;unfold k9;rw[if_pos (by unfold Region.wanted;rw[hgo])];rw[h4]at hW1;rw[h3]at hF1;refine hop _ w0 S1 γ1 w1 a1 _ _ hco hW1 hF1 (fun u w' S' γ' hE2 hW2 hv=>?_) fun u w' S' γ' hE2 hW2 hv=>?_
   ·exact suf he2 hvc2 hpr2 hR2 S' γ' w' (a1.put (ops[i]).dst u) (hE.trans hE2) hW2 (by
     rw[hdst];exact(hF1.ext hE2).put hv hlt')
   exact suf he3 hvc3 hpr3 hR3 S' γ' w' (a1.put (ops[i]).dst u) (hE.trans hE2) hW2 (by
    rw[hdst];exact(hF1.ext hE2).put hv hlt')
  |succ l ih =>
   intro i hi S1 γ1 w1 a1 hE hW1 hF1;have his:i<ops.size:=by omega
   rw[show ops.size-i=(ops.size-(i+1))+1 by omega,List.range'_succ,wpOps_cons];have ho:ops[i]?=some ops[i]:=by simp[his]
   obtain⟨ao,hao,hco⟩:=hat i ops[i] (by rw[Array.getElem?_toList];exact ho);obtain⟨vcj,prj,k1,k2',k3,k4⟩:=h5 i ao (by rw[List.getElem?_take,if_pos (by omega)];exact hao);rw[Nat.zero_add]at k1 k4;obtain⟨-,-,hdst,hlt',-⟩:=bH hco;refine dV ho (bF hW1 hco k1 k2' k3 (fun t _=>hF1.val t) fun u w2 S2 γ2 hE2 hW2 hv=>?_);refine ih (i+1) (by omega) S2 γ2 w2 _ (hE.trans hE2) hW2 ?_;rw[k4,hdst];exact(hF1.ext hE2).put hv hlt'
 rw[List.range_eq_range'];exact pre j 0 (by omega) S γ w a (Ext.refl _ _ _) (by rw[h2];exact hW) (by rw[h1];exact hF)
theorem C2 {own:Nat→Bool} {n:Nat} {op:dc} {s x:b5} {e:TypeId} {size bytes b g off k m:Nat} {kb:eN} {vc:VC} {cs:List AV} {f1:AF} {μ1:AM} (hk:op.k= .append s x e size bytes)
  (hs:ev f1 s= .ref b g off k) (hb:μ1[b]?=some kb) (hsrc:gO μ1 size (ev f1 x)=some (vc,cs,m)) (hvc:az vc) (h1:kb.frozen=false) (h2:kb.sz=size) (h3:kb.elem=e) (h4:g=kb.gen) (h5:off+k*size=kb.cells.length) (h6:0<k) (h7:(k+m)*bytes≤140737488355328) (h8:k+m≤1000000000) :
  C0 C own n ops op f1 μ1 (.ref b (kb.gen+1) off (k+m)) (μ1.set b {kb with cells:=kb.cells++cs,gen:=kb.gen+1}) (.ref b (kb.gen+1) 0 (k+m)) (μ1.set b {kb with cells:=kb.cells.drop off++cs,gen:=kb.gen+1}):=by
 intro o w0 S γ w a K' Q hco hW hF hK1 hK2;obtain⟨ow,hkk,hdst,-,-⟩:=bH hco;rw[hk]at hkk;obtain⟨s0,x0,t,i,z,ho,ht,e1,e2,hi,hz,g1,g2,g3⟩:=Bt hkk;rcases qf hW ho e1 e2 ht hi hz (by omega) g2 g3 hs hb h1 h2 h3 h4 h5 h6 hsrc hvc h7 (by unfold jH;omega) (fun t _=>hF.val t) with h|h
 ·exact ri h hK1
 exact ri h hK2
def vt (C:Ctx) (k:Nat) (al:List dc) (hs2:List (Nat×Hint)) (R:Exit→AF→AM→Prop):Option (VC×List Prop×AF×AM)→Prop
 |some (vc,pr,f1,μ1)=>az vc∧aB pr∧match al[k]? with
  |some ⟨d,.append s x e size bytes,none⟩=>match ev f1 s with
   | .ref b g off c=>match μ1[b]?,gO μ1 size (ev f1 x) with
    |some kb,some (vc2,cs,m)=>az vc2∧(kb.frozen=false∧kb.sz=size∧kb.elem=e∧g=kb.gen∧off+c*size=kb.cells.length∧0<c∧(c+m)*bytes≤140737488355328∧c+m≤1000000000) ∧
     eL (R .normal) (bN (aq C) (aF C) false false (al.drop (k+1)) hs2 0 [] [] (put f1 d (.ref b (kb.gen+1) off (c+m))) (μ1.set b {kb with cells:=kb.cells++cs,gen:=kb.gen+1})) ∧
     eL (R .normal) (bN (aq C) (aF C) false false (al.drop (k+1)) hs2 0 [] [] (put f1 d (.ref b (kb.gen+1) 0 (c+m))) (μ1.set b {kb with cells:=kb.cells.drop off++cs,gen:=kb.gen+1}))
    |_,_=>False
   |_=>False
  |_=>False
 |none=>False
variable {own:Nat→Bool} {n m:Nat} {R:Exit→AF→AM→Prop}
theorem C3 (k:Nat) (cm:Bool) {al:List dc} (hs hs2:List (Nat×Hint)) (h:vt C k al hs2 R (bN (aq C) (aF C) cm false (al.take k) hs 0 [] [] f μ)):Aw C own n m (.region false al) R f μ:=by
 intro c hc;obtain⟨id,ops,rfl,hc,-⟩:=iw hc;unfold vt at h;split at h
 ·rename_i vc pr f1 μ1 he;obtain⟨hvc,hpr,h⟩:=h;split at h
  ·rename_i d s x e size bytes hk;split at h
   ·rename_i b g off cc hs';split at h
    ·rename_i kb vc2 cs mm hb hsrc;obtain⟨hvc2,⟨q1,q2,q3,q4,q5,q6,q7,q8⟩,hA,hB⟩:=h;unfold eL at hA hB;split at hA
     ·rename_i vcA prA fA μA heA;split at hB
      ·rename_i vcB prB fB μB heB;exact C1 hc hk rfl he hvc hpr (C2 rfl hs' hb hsrc hvc2 q1 q2 q3 q4 q5 q6 q7 q8) heA hA.1 hA.2.1 hA.2.2 heB hB.1 hB.2.1 hB.2.2
      exact hB.elim
     exact hA.elim
    exact h.elim
   exact h.elim
  exact h.elim
 exact h.elim
end
end
section
theorem lW {C:Ctx} {own:Nat→Bool} {n' m:Nat} {R:Exit→AF→AM→Prop} {f:AF} {μ:AM} {ps:List PV} {g n t sz:Nat} {e:TypeId} {x:av} (hμ:aS μ μ.length=true) (hm:m≤μ.length) (hz:sz≠0) (hl:ps.length=n*sz) (hf:∀M,iW M μ.length f=f) (hof:cu ((t,.pv (.sl n ps))::f) μ.length=true)
  (h:Aw C own n' m x R ((t,.pv (.sl n ps))::f) μ):Aw C own n' m x R ((t,.ref μ.length g 0 n)::f) (μ++[⟨ps.map .pv,g,sz,e,false⟩]):=by
 refine wU μ.length (by simp) ?_;have hb:(μ++[⟨ps.map .pv,g,sz,e,false⟩]:AM)[μ.length]?=some ⟨ps.map .pv,g,sz,e,false⟩:=by simp
 generalize hM:(μ++[⟨ps.map .pv,g,sz,e,false⟩]:AM)=M at *;have hz1:Nat.beq sz 0=false:=by rw[Bool.eq_false_iff];exact fun h=>hz (Nat.eq_of_beq_eq_true h)
 have hsol:a6 M (.ref μ.length g 0 n)=some (.sl n ps):=by
  have h2:Nat.ble (0+n*sz) (ps.map AV.pv).length=true:=Nat.ble_eq_true_of_le (by simp[hl]);have h3:((ps.map AV.pv).drop 0).take (n*sz)=ps.map .pv:=by rw[List.drop_zero,List.take_of_length_le (by simp[hl])]
  have h4:∀(l:List PV),br (l.map .pv)=some l:=fun l=>by
   induction l with
   |nil=>rfl
   |cons p r ih=>simp only[List.map_cons,br,ih]
  simp only[a6,hb,hz1,Nat.beq_refl,h2,h3,h4,Bool.not_false,Bool.true_and,cond_true]
 have hpv:∀l:List PV,(l.map AV.pv).map (gr M μ.length)=l.map .pv:=fun l=>by simp[Function.comp_def,gr]
 have hold:∀k∈μ,{k with cells:=k.cells.map (gr M μ.length)}=k:=fun k hk=>by
  have h1:=List.all_eq_true.mp hμ k hk;have:k.cells.map (gr M μ.length)=k.cells:=by
   conv=>rhs;rw[←List.map_id k.cells]
   refine List.map_congr_left fun v hv=>?_
   exact Aj (List.all_eq_true.mp h1 v hv) (by omega) M
  rw[this]
 have hmap:μ.map (fun k=>{k with cells:=k.cells.map (gr M μ.length)})=μ:=by
  conv=>rhs;rw[←List.map_id μ]
  exact List.map_congr_left fun k hk=>hold k hk
 have hfz:freeze M [μ.length]=μ++[⟨ps.map .pv,g,sz,e,true⟩]:=by
  simp only[freeze,hb];rw[←hM,List.set_append_right _ _ (by simp)];simp
 have hS:ko M μ.length=μ++[⟨ps.map .pv,g,sz,e,true⟩]:=by
  unfold ko;rw[hfz];simp only[List.map_append,List.map_cons,List.map_nil,hmap,hpv]
 have hF:iW M μ.length ((t,.ref μ.length g 0 n)::f)=(t,.pv (.sl n ps))::f:=by
  have h1:=hf M;unfold iW at h1 ⊢;rw[List.map_cons,h1];show(t,gr M μ.length (.ref μ.length g 0 n))::f=_;simp only[gr,Nat.beq_refl,cond_true,hsol]
 rw[hS,hF];exact rl hm hof hμ h
end
section
section
variable {C:Ctx} {w0 w:World} {S:Nat→Prop} {γ:Gh} {μ:AM} {f:AF} {a:Act} {o:Oper} {ops:Array Oper}
variable {own:Nat→Bool} {n m:Nat} {R:Exit→AF→AM→Prop}
end
end
section
structure zj (σ:Type) where
 P:Program
 mixed:P.follows .mixedOrders=true
 D:List Deferred
 E:σ→World→Prop
 hE:∀k (w w':World),E k w→Below w.heap.size w w'→E k w'
 Fo:Nat→Prop
def zj.C {σ:Type} (F:zj σ) (k:σ):Ctx:=⟨F.P,F.E k,F.hE k,F.mixed,F.D⟩
structure vu (Fo:Nat→Prop) (w w':World):Prop where
 os:w'.os=w.os
 tape:w'.tape=w.tape
 output:w'.output=w.output
 size:w'.heap.size=w.heap.size
 block:∀g,¬Fo g→w'.heap[g]?=w.heap[g]?
theorem vu.refl (Fo:Nat→Prop) (w:World):vu Fo w w:=⟨rfl,rfl,rfl,rfl,fun _ _=>rfl⟩
theorem vu.trans {Fo:Nat→Prop} {a b c:World} (h:vu Fo a b) (k:vu Fo b c):vu Fo a c :=
 ⟨k.os.trans h.os,k.tape.trans h.tape,k.output.trans h.output,k.size.trans h.size,fun g hg=>(k.block g hg).trans (h.block g hg)⟩
def NS (Fo:Nat→Prop) (w0:World) (S:Nat→Prop):Prop:=∀g,Fo g→g<w0.heap.size∧¬S g
section
variable {σ:Type} {F:zj σ} {own:Nat→Bool} {n m:Nat} {R:σ→Exit→AF→AM→Prop} {k:σ} {f:AF} {μ:AM}
def sA (F:zj σ) (n m:Nat) (w0 w:World) (S:Nat→Prop) (γ:Gh) (R:σ→Exit→AF→AM→Prop):Exit→Act→World→Prop :=
 fun x a' w'=>∃k' w0' S' γ' f' μ',vu F.Fo w0 w0'∧jN m w S γ w' S' γ'∧Wd (F.C k') w0' S' γ' μ' w'∧FR F.D n w' S' γ' f' a'∧NS F.Fo w0' S'∧R k' x f' μ'
def JI (F:zj σ) (n m:Nat) (c:Code) (R:σ→Exit→AF→AM→Prop) (k:σ) (f:AF) (μ:AM):Prop :=
 ∀(w0:World) (S:Nat→Prop) (γ:Gh) (w:World) (a:Act),Wd (F.C k) w0 S γ μ w→FR F.D n w S γ f a→NS F.Fo w0 S→c.wp F.P (sA F n m w0 w S γ R) a w
def yA (F:zj σ) (own:Nat→Bool) (n m:Nat) (x:av) (R:σ→Exit→AF→AM→Prop) (k:σ) (f:AF) (μ:AM):Prop :=
 ∀c,comp F.P own n c=some x→JI F n m c R k f μ
def dv (K:σ→AF→AM→Prop) (R:σ→Exit→AF→AM→Prop):σ→Exit→AF→AM→Prop
 |k,.normal,f,μ=>K k f μ
 |k,e,f,μ=>R k e f μ
def ni (id:Nat) (R:σ→Exit→AF→AM→Prop):σ→Exit→AF→AM→Prop
 |k,.exit i,f,μ=>bif Nat.beq i id then R k .normal f μ else R k (.exit i) f μ
 |k,e,f,μ=>R k e f μ
theorem sA.ext {w0 w0' w w1:World} {S S1:Nat→Prop} {γ γ1:Gh} {x:Exit} {a':Act} {w':World} (ho:vu F.Fo w0 w0') (hE:jN m w S γ w1 S1 γ1) (h:sA F n m w0' w1 S1 γ1 R x a' w'):sA F n m w0 w S γ R x a' w':=by
 obtain⟨k',w2,S',γ',f',μ',h1,h2,h3,h4,h5,h6⟩:=h;exact⟨k',w2,S',γ',f',μ',ho.trans h1,hE.trans h2,h3,h4,h5,h6⟩
theorem NS.ay {C:Ctx} {Fo:Nat→Prop} {w0 w w':World} {S S':Nat→Prop} {γ γ':Gh} {μ:AM} (hn:NS Fo w0 S) (hW:Wd C w0 S γ μ w) (hE:jN m w S γ w' S' γ'):NS Fo w0 S':=fun g hg=>by
 obtain⟨h1,h2⟩:=hn g hg;refine⟨h1,fun hs=>?_⟩;rcases hE.more g hs with h|⟨b,e,hb,he⟩|h
 ·exact h2 h
 ·have hbl:b<μ.length:=by
   apply Classical.byContradiction;intro hnb;rw[hW.mem.none b (by omega)]at hb;cases hb
  obtain⟨e0,q1,-,-,-,q5,-⟩:=hW.mem.CB (List.getElem?_eq_getElem hbl);rw[q1]at hb;injection hb with hb
  subst hb;omega
 have:=hW.below.size;omega
theorem dE {x:av} (h:Aw (F.C k) own n m x (R k) f μ):yA F own n m x R k f μ:=by
 intro c hc w0 S γ w a hW hF hN;refine wp_mono (h c hc w0 S γ w a hW hF) fun e a' w' hh=>?_
 obtain⟨S',γ',f',μ',h1,h2,h3,h4⟩:=hh;exact⟨k,w0,S',γ',f',μ',vu.refl _ _,h1.z,h2,h3,hN.ay hW h1.z,h4⟩
theorem lX {P:Program} {c:Code} {x y:av} (hc:comp P own n c=some (.seq x y)):∃a b,c= .seq a b∧comp P own n a=some x∧comp P own n b=some y:=by
 cases c<;>simp only[comp]at hc;case seq a b =>
  split at hc
  ·rename_i x' y' h1 h2;injection hc with hc;injection hc with e1 e2
   subst e1 e2;exact⟨a,b,rfl,h1,h2⟩
  cases hc
 all_goals repeat' split at hc
 all_goals first
  |(cases hc;done)
  |(injection hc with hc;cases hc;done)
  |(rcases eP hc with hc|hc<;>cases hc)
theorem fp {x y:av} (h:yA F own n m x (dv (fun k f μ=>yA F own n m y R k f μ) R) k f μ):yA F own n m (.seq x y) R k f μ:=by
 intro c hc w0 S γ w a hW hF hN;obtain⟨c1,c2,rfl,h1,h2⟩:=lX hc;refine wp_seq (wp_mono (h c1 h1 w0 S γ w a hW hF hN) fun e a' w' hE=>?_);obtain⟨k',w2,S',γ',f',μ',g0,g1,g2,g3,g4,g5⟩:=hE;cases e with
 |normal=>exact wp_mono (g5 c2 h2 w2 S' γ' w' a' g2 g3 g4) fun e a'' w'' hh=>hh.ext g0 g1
 |_=>exact⟨k',w2,S',γ',f',μ',g0,g1,g2,g3,g4,g5⟩
theorem lh {o:b5} {x y:av} {t:Bool} (ho:ev f o= .pv (.bool t)) (h:yA F own n m (bif t then x else y) R k f μ):yA F own n m (.cond o x y) R k f μ:=by
 intro c hc w0 S γ w a hW hF hN;have hcs:∃q a b,c= .cond q a b∧aA q=some o∧comp F.P own n a=some x∧comp F.P own n b=some y:=by
  cases c<;>simp only[comp]at hc;case cond q a b =>
   split at hc
   ·rename_i o' x' y' h0 h1 h2;injection hc with hc;injection hc with e0 e1 e2
    subst e0 e1 e2;exact⟨q,a,b,rfl,h0,h1,h2⟩
   cases hc
  all_goals repeat' split at hc
  all_goals first
   |(cases hc;done)
   |(injection hc with hc;cases hc;done)
   |(rcases eP hc with hc|hc<;>cases hc)
 obtain⟨q,c1,c2,rfl,h0,h1,h2⟩:=hcs;have hv:=aR (w:=w) (S:=S) (γ:=γ) (f:=f) (a:=a) h0 fun t _=>hF.val t
 rw[ho]at hv;have hv:=c6 hv;refine wp_cond hv ?_;cases t with
 |true=>exact h c1 h1 w0 S γ w a hW hF hN
 |false=>exact h c2 h2 w0 S γ w a hW hF hN
theorem ur {id:Nat} {x:av} (h:yA F own n m x (ni id R) k f μ):yA F own n m (.block id x) R k f μ:=by
 intro c hc w0 S γ w a hW hF hN;have hcs:∃a,c= .block id a∧comp F.P own n a=some x:=by
  cases c<;>simp only[comp]at hc;case block i a =>
   split at hc
   ·rename_i x' h1;injection hc with hc;injection hc with e0 e1
    subst e0 e1;exact⟨a,rfl,h1⟩
   cases hc
  all_goals repeat' split at hc
  all_goals first
   |(cases hc;done)
   |(injection hc with hc;cases hc;done)
   |(rcases eP hc with hc|hc<;>cases hc)
 obtain⟨c1,rfl,h1⟩:=hcs;refine wp_block (wp_mono (h c1 h1 w0 S γ w a hW hF hN) fun e a' w' hE=>?_);obtain⟨k',w2,S',γ',f',μ',g0,g1,g2,g3,g4,g5⟩:=hE;cases e with
 |exit i =>
  simp only[ni]at g5;simp only[Exit.inBlock];by_cases hi:i=id
  ·subst hi;rw[if_pos rfl];rw[Nat.beq_refl,cond_true]at g5;exact⟨k',w2,S',γ',f',μ',g0,g1,g2,g3,g4,g5⟩
  rw[if_neg hi];rw[ui hi,cond_false]at g5;exact⟨k',w2,S',γ',f',μ',g0,g1,g2,g3,g4,g5⟩
 |_=>exact⟨k',w2,S',γ',f',μ',g0,g1,g2,g3,g4,g5⟩
theorem C4 {x:av} (I:Nat→σ→AF→AM→Prop) (hstep:∀j k f μ,I j k f μ→yA F own n m x (dv (fun k' f' μ'=>∃i,i<j∧I i k' f' μ') R) k f μ) (j:Nat) (h:I j k f μ):yA F own n m (.loop x) R k f μ:=by
 intro c hc w0 S γ w a hW hF hN;have hcs:∃a,c= .loop a∧comp F.P own n a=some x:=by
  cases c<;>simp only[comp]at hc;case loop a =>
   split at hc
   ·rename_i x' h1;injection hc with hc;injection hc with e1
    subst e1;exact⟨a,rfl,h1⟩
   cases hc
  all_goals repeat' split at hc
  all_goals first
   |(cases hc;done)
   |(injection hc with hc;cases hc;done)
   |(rcases eP hc with hc|hc<;>cases hc)
 obtain⟨c1,rfl,h1⟩:=hcs;have key:∀(j:Nat) (k1:σ) (f1:AF) (μ1:AM) (w2:World) (S1:Nat→Prop) (γ1:Gh) (w1:World) (a1:Act),I j k1 f1 μ1→vu F.Fo w0 w2→jN m w S γ w1 S1 γ1→Wd (F.C k1) w2 S1 γ1 μ1 w1→FR F.D n w1 S1 γ1 f1 a1→NS F.Fo w2 S1→Code.rounds F.P c1 (sA F n m w0 w S γ R) (j+1) a1 w1:=by
  intro j;induction j using Nat.strongRecOn with
  |_ j ih =>
   intro k1 f1 μ1 w2 S1 γ1 w1 a1 hI hO hE hW1 hF1 hN1;rw[rounds_succ];refine wp_mono (hstep j k1 f1 μ1 hI c1 h1 w2 S1 γ1 w1 a1 hW1 hF1 hN1) fun e a' w' hh=>?_
   obtain⟨k',w3,S',γ',f',μ',g0,g1,g2,g3,g4,g5⟩:=hh;cases e with
   |normal =>
    obtain⟨i,hi,hIi⟩:=g5;exact mS (by omega) (ih i hi k' f' μ' w3 S' γ' w' a' hIi (hO.trans g0) (hE.trans g1) g2 g3 g4)
   |_=>exact⟨k',w3,S',γ',f',μ',hO.trans g0,hE.trans g1,g2,g3,g4,g5⟩
 exact wp_loop_rounds (j+1) (key j k f μ w0 S γ w a h (vu.refl _ _) (jN.refl _ _ _ _) hW hF hN)
theorem Bu (g:AF) {x:av} (hs:Sub g f) (h:yA F own n m x R k g μ):yA F own n m x R k f μ:=by
 intro c hc w0 S γ w a hW hF hN;refine h c hc w0 S γ w a hW ⟨hF.size,hF.defers,fun t=>?_⟩ hN;rcases ve hs t with h|h
 ·rw[h];exact .any _
 rw[h];exact hF.val t
end
end
section
theorem uu {P:Program} {row:String} {args:Array Value} {w:World} {R:Value→World→Prop} (h:Rows P row args w R):RowsIn Fence.wide 0 P row args w R:=fun c cs _=>by
 obtain⟨v,w',h1,h2⟩:=h c cs;exact⟨v,w',h1,StepsIn.mono (fun m _=>fenced_wide P m) (StepsIn.of_steps h2)⟩
theorem sC {P:Program} {o:Oper} {a:Act} {w:World} {K:Act→World→Prop} {Q:Exit→Act→World→Prop} (h:o.wp P a w K Q):o.wpIn Fence.wide 1 P a w K Q:=by
 unfold Oper.wpIn;refine⟨fun _ _=>trivial,?_⟩;show o.uponIn Fence.wide 1 P a K Q ((execOp a.eval o).run P w);unfold Oper.wp at h;generalize (execOp a.eval o).run P w=r at *;cases r with
 |ok x w' =>
  cases x with
  |enter g args=>exact⟨(fun h=>by cases h),callsIn_wide.mpr h⟩
  |row row args=>exact⟨(fun h=>by cases h),uu h⟩
  |_=>simp only[Oper.upon,Oper.uponIn]at h ⊢<;>first|exact h|exact h.elim
 |halt x w'=>cases x<;>simp only[Oper.upon,Oper.uponIn]at h ⊢<;>first|exact h|exact h.elim
theorem uv {P:Program} {ops:Array Oper} {o:Oper} {i:Nat} {a:Act} {w:World} {K:Act→World→Prop} {Q:Exit→Act→World→Prop} (ho:ops[i]?=some o) (h:k9 P ops o a w K Q):wpOpIn Fence.wide 1 P ops Q i K a w:=by
 unfold wpOpIn;rw[ho];simp only;unfold k9 at h;split
 ·rename_i hw;rw[if_pos hw]at h;exact sC h
 rename_i hw;rw[if_neg hw]at h;exact⟨fun _ _=>trivial,h⟩
def HN {σ:Type} (F:zj σ) (g:FuncId) (as:List AV) (k:σ) (μ:AM) (r:AV) (k':σ) (μ':AM):Prop :=
 eU F.P g=true∧∀(w0:World) (S:Nat→Prop) (γ:Gh) (w:World) (vs:List Value),Wd (F.C k) w0 S γ μ w→PW (VR w S γ) as vs→NS F.Fo w0 S →
  Calls F.P g vs.toArray w fun e w'=>∃v w0' S' γ',e= .returned v∧vu F.Fo w0 w0'∧kD w S γ w' S' γ'∧Wd (F.C k') w0' S' γ' μ' w'∧NS F.Fo w0' S'∧VR w' S' γ' r v
def Bv {σ:Type} (F:zj σ) (l:Nat) (as:List AV) (k:σ) (μ:AM) (r:AV) (k':σ) (μ':AM):Prop :=
 ∀(w0:World) (S:Nat→Prop) (γ:Gh) (w:World) (vs:List Value),Wd (F.C k) w0 S γ μ w→PW (VR w S γ) as vs→NS F.Fo w0 S →
  YieldAt Fence.wide 0 F.P l vs.toArray w fun e w'=>∃v w0' S' γ',e= .returned v∧vu F.Fo w0 w0'∧kD w S γ w' S' γ'∧Wd (F.C k') w0' S' γ' μ' w'∧NS F.Fo w0' S'∧VR w' S' γ' r v
section
variable {σ:Type} {F:zj σ} {own:Nat→Bool} {n m:Nat} {R:σ→Exit→AF→AM→Prop} {k k2:σ} {f:AF} {μ:AM} {ops:Array Oper}
def C5 (F:zj σ) (own:Nat→Bool) (n:Nat) (ops:Array Oper) (op:dc) (k:σ) (f:AF) (μ:AM) (v:AV) (k':σ) (μ':AM):Prop :=
 ∀(o:Oper) (w0:World) (S:Nat→Prop) (γ:Gh) (w:World) (a:Act) (K':Act→World→Prop) (Q:Exit→Act→World→Prop),fh F.P own n ops o=some op→Wd (F.C k) w0 S γ μ w→FR F.D n w S γ f a→NS F.Fo w0 S →
  (∀u w0' w' S' γ',vu F.Fo w0 w0'→kD w S γ w' S' γ'→Wd (F.C k') w0' S' γ' μ' w'→NS F.Fo w0' S'→VR w' S' γ' v u→K' (a.put o.dst u) w')→o.wpIn Fence.wide 1 F.P a w K' Q
theorem C6 {id j:Nat} {al:List dc} {cm cm2:Bool} {hs hs2:List (Nat×Hint)} {vc vc2:VC} {pr pr2:List Prop} {f1 f2:AF} {μ1 μ2 μ3:AM} {op:dc} {v:AV} (hc:eO F.P own n ops ops.toList=some al)
  (hk:al[j]?=some op) (hg:op.guard=none) (he:bN (aq (F.C k)) (aF (F.C k)) cm false (al.take j) hs 0 [] [] f μ=some (vc,pr,f1,μ1)) (hvc:az vc) (hpr:aB pr)
  (hop:C5 F own n ops op k f1 μ1 v k2 μ2)
  (he2:bN (aq (F.C k2)) (aF (F.C k2)) cm2 false (al.drop (j+1)) hs2 0 [] [] (put f1 op.dst v) μ2=some (vc2,pr2,f2,μ3)) (hvc2:az vc2) (hpr2:aB pr2)
  (hR:R k2 .normal f2 μ3):JI F n m (.region id ops false) R k f μ:=by
 intro w0 S γ w a hW hF hN;rw[←wpIn_wide (n:=1)];refine wpIn_region ?_;obtain⟨-,F1,M1,V1,h1,h2,h3,h4,h5⟩:=cJ (al.take j) 0 [] [] f μ vc pr f1 μ1 he hvc hpr;obtain⟨-,F2,M2,V2,q1,q2,q3,q4,q5⟩:=cJ (al.drop (j+1)) 0 [] [] (put f1 op.dst v) μ2 vc2 pr2 f2 μ3 he2 hvc2 hpr2;obtain⟨hl,hat⟩:=eD hc;replace hl:al.length=ops.size:=hl.trans (Array.length_toList);have hjl:j<al.length:=(List.getElem?_eq_some_iff.mp hk).1;have hlt:(al.take j).length=j:=by rw[List.length_take];omega
 have hld:(al.drop (j+1)).length=ops.size-(j+1):=by rw[List.length_drop,hl]
 rw[Nat.zero_add,hlt]at h3 h4;rw[Nat.zero_add,hld]at q3 q4;have suf:∀(l i:Nat),i+l=ops.size-(j+1)→∀(w2:World) (S1:Nat→Prop) (γ1:Gh) (w1:World) (a1:Act),vu F.Fo w0 w2→jN m w S γ w1 S1 γ1→Wd (F.C k2) w2 S1 γ1 (M2 i) w1→FR F.D n w1 S1 γ1 (F2 i) a1→NS F.Fo w2 S1 →
   wpOpsIn Fence.wide 1 F.P ops (sA F n m w0 w S γ R) (List.range' (j+1+i) l) a1 w1:=by
  intro l;induction l with
  |zero =>
   intro i hi w2 S1 γ1 w1 a1 hO hE hW1 hF1 hN1;simp only[List.range'_zero,wpOpsIn];obtain rfl:i=ops.size-(j+1):=by omega
   rw[q4]at hW1;rw[q3]at hF1;exact⟨k2,w2,S1,γ1,f2,μ3,hO,hE,hW1,hF1,hN1,hR⟩
  |succ l ih =>
   intro i hi w2 S1 γ1 w1 a1 hO hE hW1 hF1 hN1;rw[List.range'_succ,wpOpsIn_cons];have his:j+1+i<ops.size:=by omega
   have ho:ops[j+1+i]?=some ops[j+1+i]:=by simp[his]
   obtain⟨ao,hao,hco⟩:=hat (j+1+i) ops[j+1+i] (by rw[Array.getElem?_toList];exact ho);obtain⟨vcj,prj,k1,k2',k3,k4⟩:=q5 i ao (by rw[List.getElem?_drop];exact hao);rw[Nat.zero_add]at k1 k4;obtain⟨-,-,hdst,hlt',-⟩:=bH (C:=F.C k) hco;refine uv ho (bF (C:=F.C k2) hW1 hco k1 k2' k3 (fun t _=>hF1.val t) fun u w3 S2 γ2 hE2 hW2 hv=>?_);have:=ih (i+1) (by omega) w2 S2 γ2 w3 (a1.put (ops[j+1+i]).dst u) hO (hE.trans (hE2.z.toM m)) hW2 (by
    rw[k4,hdst];exact(hF1.ext hE2).put hv hlt') (hN1.ay hW1 (hE2.z.toM 0))
   rw[show j+1+(i+1)=j+1+i+1 by omega]at this;exact this
 have pre:∀(l i:Nat),i+l=j→∀(S1:Nat→Prop) (γ1:Gh) (w1:World) (a1:Act),jN m w S γ w1 S1 γ1→Wd (F.C k) w0 S1 γ1 (M1 i) w1→FR F.D n w1 S1 γ1 (F1 i) a1→NS F.Fo w0 S1 →
   wpOpsIn Fence.wide 1 F.P ops (sA F n m w0 w S γ R) (List.range' i (ops.size-i)) a1 w1:=by
  intro l;induction l with
  |zero =>
   intro i hi S1 γ1 w1 a1 hE hW1 hF1 hN1;obtain rfl:i=j:=by omega
   rw[show ops.size-i=(ops.size-(i+1))+1 by omega,List.range'_succ,wpOpsIn_cons];have ho:ops[i]?=some ops[i]:=by simp[←hl,hjl]
   obtain⟨ao,hao,hco⟩:=hat i ops[i] (by rw[Array.getElem?_toList];exact ho);rw[hk]at hao;injection hao with hao
   subst hao;obtain⟨ow,hkk,hdst,hlt',-⟩:=bH (C:=F.C k) hco;have hgo:(ops[i]).guard=none:=by
    cases hgu:(ops[i]).guard with
    |none=>rfl
    |some gb =>
     obtain⟨g0,b0⟩:=gb;obtain⟨t0,-,h0⟩:=jZ hco hgu;rw[hg]at h0;cases h0
   unfold wpOpIn;rw[ho];simp only;rw[if_pos (by unfold Region.wanted;rw[hgo])];rw[h4]at hW1;rw[h3]at hF1;refine hop _ w0 S1 γ1 w1 a1 _ _ hco hW1 hF1 hN1 fun u w0' w' S' γ' hO hE2 hW2 hN2 hv=>?_
   have:=suf (ops.size-(i+1)) 0 (by omega) w0' S' γ' w' (a1.put (ops[i]).dst u) hO (hE.trans (hE2.toM m)) (by rw[q2];exact hW2) (by
    rw[q1,hdst];exact(hF1.uT hE2).put hv hlt') hN2
   exact this
  |succ l ih =>
   intro i hi S1 γ1 w1 a1 hE hW1 hF1 hN1;have his:i<ops.size:=by omega
   rw[show ops.size-i=(ops.size-(i+1))+1 by omega,List.range'_succ,wpOpsIn_cons];have ho:ops[i]?=some ops[i]:=by simp[his]
   obtain⟨ao,hao,hco⟩:=hat i ops[i] (by rw[Array.getElem?_toList];exact ho);obtain⟨vcj,prj,k1,k2',k3,k4⟩:=h5 i ao (by rw[List.getElem?_take,if_pos (by omega)];exact hao);rw[Nat.zero_add]at k1 k4;obtain⟨-,-,hdst,hlt',-⟩:=bH (C:=F.C k) hco;refine uv ho (bF (C:=F.C k) hW1 hco k1 k2' k3 (fun t _=>hF1.val t) fun u w2 S2 γ2 hE2 hW2 hv=>?_);refine ih (i+1) (by omega) S2 γ2 w2 _ (hE.trans (hE2.z.toM m)) hW2 ?_ (hN1.ay hW1 (hE2.z.toM 0));rw[k4,hdst];exact(hF1.ext hE2).put hv hlt'
 rw[List.range_eq_range'];exact pre j 0 (by omega) S γ w a (jN.refl _ _ _ _) (by rw[h2];exact hW) (by rw[h1];exact hF) hN
theorem C7 {op:dc} {g:FuncId} {as:List AV} {f1:AF} {μ1 μ2:AM} {v:AV} (ht:su f1 op.k=some (g,as)) (h:HN F g as k μ1 v k2 μ2):C5 F own n ops op k f1 μ1 v k2 μ2:=by
 intro o w0 S γ w a K' Q hco hW hF hN hK;obtain⟨ow,hkk,hdst,-,-⟩:=bH (C:=F.C k) hco;have hf:∀t,VR w S γ (get f1 t) (a.eval (.tmp t)):=hF.val;have fin:∀{us:List Value} {first args caps:Array Value},PW (VR w S γ) as us→us.toArray=first++args++caps→Calls F.P g (first++args++caps) w fun e w'=>∃u,e= .returned u∧∃w0' S' γ',vu F.Fo w0 w0'∧kD w S γ w' S' γ'∧Wd (F.C k2) w0' S' γ' μ2 w'∧NS F.Fo w0' S'∧VR w' S' γ' v u:=fun {us first args caps} hv hus=>by
  rw[←hus];refine(h.2 w0 S γ w us hW hv hN).mono fun e w' hh=>?_
  obtain⟨u,w0',S',γ',h1,h2,h3,h4,h5,h6⟩:=hh;exact⟨u,h1,w0',S',γ',h2,h3,h4,h5,h6⟩
 have hK':∀u w',(∃w0' S' γ',vu F.Fo w0 w0'∧kD w S γ w' S' γ'∧Wd (F.C k2) w0' S' γ' μ2 w'∧NS F.Fo w0' S'∧VR w' S' γ' v u)→K' (a.put o.dst u) w':=fun u w' ⟨w0',S',γ',h2,h3,h4,h5,h6⟩=>hK u w0' w' S' γ' h2 h3 h4 h5 h6
 refine sC ?_;revert hkk ht;generalize op.k=kk;intro ht hkk;cases kk with
 |call g' as' =>
  injection ht with ht
  injection ht with e1 e2
  subst e1 e2;obtain⟨c,hop,hcc⟩:=fk hkk rfl;rcases fl hcc rfl with⟨g',as',hc1,hc2,he'⟩|⟨t,as',hc1,hc2,he'⟩
  ·injection he' with e1 e2
   subst e1 e2;have hv:=iD (w:=w) (S:=S) (γ:=γ) (f:=f1) (a:=a) hc2 fun t _=>hf t
   exact kI (C:=F.C k) (first:=#[]) (args:=c.args.map a.eval) (caps:=#[]) hop h.1 ⟨_,hc1,rfl⟩ rfl (fin hv (by simp[←Array.toList_map])) hK'
  cases he'
 |callv x as' =>
  obtain⟨c,hop,hcc⟩:=fk hkk rfl;rcases fl hcc rfl with⟨g',as',hc1,hc2,he'⟩|⟨t,as',hc1,hc2,he'⟩
  ·cases he'
  injection he' with e1 e2
  subst e1 e2;have hv:=iD (w:=w) (S:=S) (γ:=γ) (f:=f1) (a:=a) hc2 fun t _=>hf t
  have hx:=hf t;simp only[su]at ht;split at ht
  ·rename_i g0 caps hg;injection ht with ht
   injection ht with e1 e2
   subst e1 e2;simp only[ev]at hg;rw[hg]at hx;generalize hxe:a.eval (.tmp t)=xv at hx;cases hx with
   |fn _ _ cs hl hat =>
    exact kI (C:=F.C k) (first:=#[]) (args:=c.args.map a.eval) (caps:=cs.toArray) hop h.1 ⟨_,hc1,hxe⟩ rfl (fin (hv.append ⟨hl,hat⟩) (by simp[←Array.toList_map])) hK'
  ·rename_i g0 first hg
   injection ht with ht
   injection ht with e1 e2
   subst e1 e2;simp only[ev]at hg;rw[hg]at hx;generalize hxe:a.eval (.tmp t)=xv at hx;cases hx with
   |bm _ _ cs hl hat =>
    exact kI (C:=F.C k) (first:=cs.toArray) (args:=c.args.map a.eval) (caps:=#[]) hop h.1 ⟨_,hc1,hxe⟩ rfl (fin (PW.append ⟨hl,hat⟩ hv) (by simp[←Array.toList_map])) hK'
  ·rename_i g0 x y hg;split at ht
   ·rename_i hxa hya;injection ht with ht
    injection ht with e1 e2
    subst e1 e2;simp only[ev]at hg;rw[hg]at hx;generalize hxe:a.eval (.tmp t)=xv at hx;obtain rfl:=gH hx;obtain rfl:x=#[]:=by cases x;simp only at hxa;subst hxa;rfl
    obtain rfl:y=#[]:=by cases y;simp only at hya;subst hya;rfl
    exact kI (C:=F.C k) (first:=#[]) (args:=c.args.map a.eval) (caps:=#[]) hop h.1 ⟨_,hc1,hxe⟩ rfl (fin hv (by simp[←Array.toList_map])) hK'
   cases ht
  cases ht
 |_=>cases ht
theorem Bw {op:dc} {l:Nat} {x:b5} {as':List b5} {f1:AF} {μ1 μ2:AM} {v:AV} (hk:op.k= .callv x as') (hx:ev f1 x= .pv (.val (.func (.yield l) #[] #[]))) (h:Bv F l (as'.map (ev f1)) k μ1 v k2 μ2):C5 F own n ops op k f1 μ1 v k2 μ2:=by
 intro o w0 S γ w a K' Q hco hW hF hN hK;obtain⟨ow,hkk,hdst,-,-⟩:=bH (C:=F.C k) hco;rw[hk]at hkk;obtain⟨c,hop,hcc⟩:=fk hkk rfl;rcases fl hcc rfl with⟨g',as2,hc1,hc2,he'⟩|⟨t,as2,hc1,hc2,he'⟩
 ·cases he'
 injection he' with e1 e2
 subst e1 e2;have hv:=iD (w:=w) (S:=S) (γ:=γ) (f:=f1) (a:=a) hc2 fun t _=>hF.val t
 have hxv:=hF.val t;simp only[ev]at hx;rw[hx]at hxv;have hxv:=gH hxv;obtain⟨fn,tmps,assign,body,hy,hR⟩:=h w0 S γ w _ hW hv hN;obtain⟨callee,args0,ts⟩:=c;simp only at hc1 hv hy;subst hc1;have hr:(execOp a.eval o).run F.P w= .ok (.round l fn tmps assign body) w:=by
  rw[←hy];have e:(args0.toList.map a.eval).toArray=args0.map a.eval:=by rw[←Array.toList_map,Array.toArray_toList]
  rw[e];simp[execOp,hop,resolve,hxv,Deferred.ofValue,invoke]
 unfold Oper.wpIn;refine⟨fun _ _=>trivial,?_⟩;show o.uponIn Fence.wide 1 F.P a K' Q ((execOp a.eval o).run F.P w);rw[hr,Oper.uponIn_round];refine⟨(fun h=>by cases h),hR.mono fun e w' hh=>?_⟩;obtain⟨u,w0',S',γ',rfl,h2,h3,h4,h5,h6⟩:=hh;exact hK u w0' w' S' γ' h2 h3 h4 h5 h6
def xm (F:zj σ) (j:Nat) (al:List dc) (hs2:List (Nat×Hint)) (R:σ→Exit→AF→AM→Prop) (k:σ):Option (VC×List Prop×AF×AM)→Prop
 |some (vc,pr,f,μ)=>az vc∧aB pr∧match al[j]? with
  |some o=>o.guard=none∧∃v k2 μ2,((∃g as,su f o.k=some (g,as)∧HN F g as k μ v k2 μ2)∨(∃x as l,o.k= .callv x as∧ev f x= .pv (.val (.func (.yield l) #[] #[]))∧Bv F l (as.map (ev f)) k μ v k2 μ2)) ∧
    eL (R k2 .normal) (bN (aq (F.C k2)) (aF (F.C k2)) true false (al.drop (j+1)) hs2 0 [] [] (put f o.dst v) μ2)
  |none=>False
 |none=>False
theorem vv (j:Nat) {al:List dc} (hs hs2:List (Nat×Hint)) (h:xm F j al hs2 R k (bN (aq (F.C k)) (aF (F.C k)) true false (al.take j) hs 0 [] [] f μ)):yA F own n m (.region false al) R k f μ:=by
 intro c hc;obtain⟨id,ops,rfl,g1,-⟩:=iw hc;unfold xm at h;split at h
 ·rename_i vc pr f1 μ1 he;obtain⟨h1,h2,h3⟩:=h;split at h3
  ·rename_i o ho;obtain⟨hg,v,k2,μ2,hm,ha⟩:=h3;unfold eL at ha;split at ha
   ·rename_i he2;refine C6 g1 ho hg he h1 h2 ?_ he2 ha.1 ha.2.1 ha.2.2;rcases hm with⟨g,as,hp,hy⟩|⟨x,as,l,hk,hx,hy⟩
    ·exact C7 hp hy
    exact Bw hk hx hy
   exact ha.elim
  exact h3.elim
 exact h.elim
def C8 (rs:List jX) (r:AV) (k':σ) (μ0:AM):σ→Exit→AF→AM→Prop:=fun k e f μ=>match e with
 | .normal| .ret=>k=k'∧∃vc junk,aZ f μ rs=some (vc,r)∧az vc∧μ=μ0++junk
 |_=>False
theorem C9 {fid:FuncId} {q:Nat} {rs:List jX} {x:av} {as:List AV} {r:AV} {μ0 μ1:AM} (h:Fn (F.C k) fid own n q rs x) (hq:as.length=q) (hl:μ0.length≤μ1.length) (hr:cZ 3 μ1.length r=true) (hm:aS μ1 μ1.length=true)
  (hb:yA F own n μ0.length x (C8 rs r k2 μ1) k (ji 0 as) μ0):HN F fid as k μ0 r k2 μ1:=by
 obtain⟨fn,c,h1,h2,h3,h4,h5,h6,h7⟩:=h.ex;refine⟨h7,fun w0 S γ w us hW hp hN=>?_⟩;have hus:us.length≤fn.ntmps:=by rw[←hp.len];omega
 refine calls_of_wp h1 h2 (wp_mono (hb c h3 w0 S γ w _ hW (by rw[←h5,show F.D=[] from h.dz];exact mT hp hus) hN) fun e a' w' hh=>?_);obtain⟨k',w2,S',γ',f',μ',g0,g1,g2,g3,gn,g4⟩:=hh;have fin:(k'=k2∧∃vc junk,aZ f' μ' rs=some (vc,r)∧az vc∧μ'=μ1++junk)→a'.defers=[]∧∃v,(results fn a'.tmps).run F.P w'= .ok v w'∧∃v_1 w0' S' γ',Ending.returned v=Ending.returned v_1∧vu F.Fo w0 w0'∧kD w S γ w' S' γ'∧Wd (F.C k2) w0' S' γ' μ1 w'∧NS F.Fo w0' S'∧VR w' S' γ' r v_1:=by
  rintro⟨rfl,vc,junk,e1,e2,rfl⟩;obtain⟨u,hu,hv⟩:=kl (C:=F.C k') g2 g3 h4 e1 e2;have hγ:∀b,b<μ1.length→cw γ' μ1.length b=γ' b:=fun b h=>by simp[cw,h]
  refine⟨g3.defers.trans h.dz,u,hu,u,w2,S',cw γ' μ1.length,rfl,g0,⟨g1.stay,fun b e hb=>?_,g1.more,fun b e' hb=>?_,g1.size⟩,g2.drop hm,gn,lQ hγ 3 hr hv⟩
  ·have hbl:b<μ0.length:=by
    apply Classical.byContradiction;intro hn;rw[hW.mem.none b (by omega)]at hb;cases hb
   obtain⟨e',k1,k2,k3⟩:=g1.gh b e hbl hb;exact⟨e',(hγ b (by omega)).trans k1,k2,k3⟩
  unfold cw at hb;split at hb
  ·exact g1.cbs b e' hb
  cases hb
 cases e with
 |normal=>exact fin g4
 |ret=>exact fin g4
 |_=>exact g4.elim
end
end
section
structure kN (w:World) (l:Nat):Prop where
 cell:∀i,w.cell? ⟨l,i,none⟩=none
 map:∀es clock,w.heap[l]?≠some (.map es clock)
 cells:∀cs e fz,w.heap[l]?≠some (.cells cs e fz)
theorem ot {w:World} {l:Nat} {r:Loop} (h:w.heap[l]?=some (.loop r)):kN w l :=
 ⟨fun i=>by simp[World.cell?,h],fun es c=>by rw[h];exact(fun h=>by cases h),fun cs e fz=>by rw[h];exact(fun h=>by cases h)⟩
theorem By {w:World} {l:Nat} {r:Option (List Deferred)} (h:w.heap[l]?=some (.deferred r)):kN w l :=
 ⟨fun i=>by simp[World.cell?,h],fun es c=>by rw[h];exact(fun h=>by cases h),fun cs e fz=>by rw[h];exact(fun h=>by cases h)⟩
section
variable {w:World} {l:Nat} {o:Obj} {S:Nat→Prop} {γ:Gh}
theorem kN.at_ (hl:kN w l) {g i:Nat} {v:Value} (h:w.cell? ⟨g,i,none⟩=some v):(w.putObj l o).cell? ⟨g,i,none⟩=some v:=by
 have hg:g≠l:=by
  rintro rfl;rw[hl.cell i]at h;cases h
 exact(World.cell?_of_block (World.putObj_heap_other hg)).trans h
theorem kN.JJ (hl:kN w l) {p:PV} {v:Value} (h:Is w S p v):Is (w.putObj l o) S p v:=by
 induction h with
 |int k n=>exact .int k n
 |bool b=>exact .bool b
 |str s=>exact .str s
 |agg l cs hl _ ih=>exact .agg l cs hl ih
 |tup l cs hl _ ih=>exact .tup l cs hl ih
 |nilsl=>exact .nilsl
 |sl n l g o cap c h1 h2 h3 h4 h5 _ ih=>exact .sl n l g o cap c h1 h2 h3 (fun i p hp=>hl.at_ (h4 i p hp)) h5 ih
 |sl0=>exact .sl0
 |slz a cap h=>exact .slz a cap h
 |val v=>exact .val v
 |iface t p=>exact .iface t p
 |mp l r es clock h1 h2 h3 _ ih=>exact .mp l r es clock h1 ((World.putObj_heap_other (by rintro rfl;exact hl.map _ _ h2)).trans h2) h3 ih
theorem kN.vr (hl:kN w l) {p:AV} {v:Value} (h:VR w S γ p v):VR (w.putObj l o) S γ p v:=by
 induction h with
 |pv p v hp=>exact .pv p v (hl.JJ hp)
 |ref b g off n v e a c h1 h2 h3 h4=>exact .ref b g off n v e a c h1 h2 h3 h4
 |ptr b g off v e a h1 h2 h3 h4=>exact .ptr b g off v e a h1 h2 h3 h4
 |iptr l off g o c hS hc hi=>exact .iptr l off g o c hS (fun i p hp=>hl.at_ (hc i p hp)) fun i p hp=>hl.JJ (hi i p hp)
 |agg l cs hl _ ih=>exact .agg l cs hl ih
 |tup l cs hl _ ih=>exact .tup l cs hl ih
 |fn f l cs hl _ ih=>exact .fn f l cs hl ih
 |bm f l cs hl _ ih=>exact .bm f l cs hl ih
 |map b g v e r h1 h2 h3 h4=>exact .map b g v e r h1 h2 h3 h4
 |ifb c a v _ h2 ih=>exact .ifb c a v ih h2
 |any v=>exact .any v
theorem kN.mem {w0:World} {μ:AM} (hl:kN w l) (h:ke w0 S γ μ w):ke w0 S γ μ (w.putObj l o):=by
 refine⟨fun b k hk hz=>?_,fun b k hk hz=>?_,h.none,h.inj⟩
 ·obtain⟨e,cs,h1,h2,h3,⟨fz,h4,h4'⟩,h5,h6,h7,h8,h9⟩:=h.blk b k hk hz;refine⟨e,cs,h1,h2,h3,⟨fz,(World.putObj_heap_other (by rintro rfl;exact hl.cells _ _ _ h4)).trans h4,h4'⟩,h5,h6,fun i a ha=>?_,h8,h9⟩;obtain⟨v,g1,g2,g3⟩:=h7 i a ha;exact⟨v,g1,hl.vr g2,g3⟩
 obtain⟨e,h1,h2,h3,⟨es,c,h4,h5,h6⟩,h7,h8⟩:=h.mp b k hk hz;exact⟨e,h1,h2,h3,⟨es,c,(World.putObj_heap_other (by rintro rfl;exact hl.map _ _ h4)).trans h4,⟨h5.len,fun i a b ha hb=>hl.vr (h5.at_ i a b ha hb)⟩,h6⟩,h7,h8⟩
theorem Bz {B:Nat} {w0:World} (h:Below B w0 w) (hl:B≤l):Below B w0 (w.putObj l o) :=
 h.trans ⟨rfl,rfl,rfl,by simp,fun k hk=>World.putObj_heap_other (by omega)⟩
theorem kN.wd {C:Ctx} {w0:World} {μ:AM} (hl:kN w l) (h:Wd C w0 S γ μ w) (h0:w0.heap.size≤l):Wd C w0 S γ μ (w.putObj l o) :=
 ⟨hl.mem h.mem,Bz h.below h0,fun g hg=>by rw[World.putObj_size];exact h.live g hg,h.env⟩
theorem kN.fr {D:List Deferred} {n:Nat} {f:AF} {a:Act} (hl:kN w l) (h:FR D n w S γ f a):FR D n (w.putObj l o) S γ f a :=
 ⟨h.size,h.defers,fun t=>hl.vr (h.val t)⟩
theorem Is.up {S':Nat→Prop} (h:∀g,S g→S' g) {p:PV} {v:Value} (hp:Is w S p v):Is w S' p v:=hp.stay ⟨h,fun _ _=>rfl⟩
end
theorem tO {P:Program} {own:Nat→Bool} {n:Nat} {c:Code} {o:b5} {x y:av} (hc:comp P own n c=some (.cond o x y)):∃q a b,c= .cond q a b∧aA q=some o∧comp P own n a=some x∧comp P own n b=some y:=by
 cases c<;>simp only[comp]at hc;case cond q a b =>
  split at hc
  ·rename_i o' x' y' h0 h1 h2;injection hc with hc;injection hc with e0 e1 e2
   subst e0 e1 e2;exact⟨q,a,b,rfl,h0,h1,h2⟩
  cases hc
 all_goals repeat' split at hc
 all_goals first
  |(cases hc;done)
  |(injection hc with hc;cases hc;done)
  |(rcases eP hc with hc|hc<;>cases hc)
theorem nj {P:Program} {own:Nat→Bool} {n id:Nat} {c:Code} {x:av} (hc:comp P own n c=some (.block id x)):∃a,c= .block id a∧comp P own n a=some x:=by
 cases c<;>simp only[comp]at hc;case block i a =>
  split at hc
  ·rename_i x' h1;injection hc with hc;injection hc with e0 e1
   subst e0 e1;exact⟨a,rfl,h1⟩
  cases hc
 all_goals repeat' split at hc
 all_goals first
  |(cases hc;done)
  |(injection hc with hc;cases hc;done)
  |(rcases eP hc with hc|hc<;>cases hc)
theorem vw {P:Program} {own:Nat→Bool} {n:Nat} {c:Code} (hc:comp P own n c=some .ret):c= .ret:=by
 cases c<;>simp only[comp]at hc;case ret=>rfl
 all_goals repeat' split at hc
 all_goals first
  |(cases hc;done)
  |(injection hc with hc;cases hc;done)
  |(rcases eP hc with hc|hc<;>cases hc)
theorem tP {P:Program} {own:Nat→Bool} {n:Nat} {c:Code} (hc:comp P own n c=some .skip):c= .skip:=by
 cases c<;>simp only[comp]at hc;case skip=>rfl
 all_goals repeat' split at hc
 all_goals first
  |(cases hc;done)
  |(injection hc with hc;cases hc;done)
  |(rcases eP hc with hc|hc<;>cases hc)
theorem sD {P:Program} {own:Nat→Bool} {n:Nat} {c:Code} {g:b5} {ps:List Nat} {x y:av} (hc:comp P own n c=some (.range g ps x y)):∃q qs a b,c= .rangeFunc q qs a b∧aA q=some g∧qs.toList=ps∧comp P own n a=some x∧comp P own n b=some y:=by
 cases c<;>simp only[comp]at hc;case rangeFunc q qs a b =>
  split at hc
  ·rename_i o' x' y' h0 h1 h2;injection hc with hc;injection hc with e0 e1 e2 e3
   subst e0 e1 e2 e3;exact⟨q,qs,a,b,rfl,h0,rfl,h1,h2⟩
  cases hc
 all_goals repeat' split at hc
 all_goals first
  |(cases hc;done)
  |(injection hc with hc;cases hc;done)
  |(rcases eP hc with hc|hc<;>cases hc)
theorem BA {P:Program} {own:Nat→Bool} {n:Nat} {ops:Array Oper} {o:Oper} {ao:dc} (h:fh P own n ops o=some ao):∀c,o.op≠.defer c:=by
 intro c hc;unfold fh at h;rw[hc]at h;simp[ir]at h
theorem xn {P:Program} {l:Nat} {o:Oper} {a:Act} {w:World} {K:Act→World→Prop} {Q:Exit→Act→World→Prop} (hnd:∀c,o.op≠.defer c) (h:o.wp P a w K Q):o.wpIn (Fence.wide.inRound l) 0 P a w K Q:=by
 unfold Oper.wpIn;refine⟨fun _ _=>trivial,?_⟩;rw[Oper.semAt_eq _ _ _ hnd];unfold Oper.wp at h;generalize (execOp a.eval o).run P w=r at *;cases r with
 |ok x w' =>
  cases x with
  |enter g args=>exact⟨(fun h=>by cases h),(callsIn_wide (n:=0).mpr h).inRound l⟩
  |row row args=>exact⟨(fun h=>by cases h),uu h⟩
  |_=>simp only[Oper.upon,Oper.uponIn]at h ⊢<;>first|exact h|exact h.elim
 |halt x w'=>cases x<;>simp only[Oper.upon,Oper.uponIn]at h ⊢<;>first|exact h|exact h.elim
theorem zk {P:Program} {l:Nat} {ops:Array Oper} {o:Oper} {i:Nat} {a:Act} {w:World} {K:Act→World→Prop} {Q:Exit→Act→World→Prop} (ho:ops[i]?=some o) (hnd:∀c,o.op≠.defer c) (h:k9 P ops o a w K Q):wpOpIn (Fence.wide.inRound l) 0 P ops Q i K a w:=by
 unfold wpOpIn;rw[ho];simp only;unfold k9 at h;split
 ·rename_i hw;rw[if_pos hw]at h;exact xn hnd h
 rename_i hw;rw[if_neg hw]at h;exact⟨fun _ _=>trivial,h⟩
section
variable {C:Ctx} {l:Nat} {own:Nat→Bool} {n m:Nat} {R:Exit→AF→AM→Prop} {f:AF} {μ:AM}
def Ap (C:Ctx) (l:Nat) (own:Nat→Bool) (n m:Nat) (x:av) (R:Exit→AF→AM→Prop) (f:AF) (μ:AM):Prop :=
 ∀c,comp C.P own n c=some x→∀(w0:World) (S:Nat→Prop) (γ:Gh) (w:World) (a:Act),Wd C w0 S γ μ w→FR C.D n w S γ f a→c.wpIn (Fence.wide.inRound l) 0 C.P (Ends C n m w0 w S γ R) a w
theorem rp {x y:av} (h:Ap C l own n m x (cW (fun f μ=>Ap C l own n m y R f μ) R) f μ):Ap C l own n m (.seq x y) R f μ:=by
 intro c hc w0 S γ w a hW hF;obtain⟨c1,c2,rfl,h1,h2⟩:=lX hc;refine wpIn_seq (wpIn_mono (h c1 h1 w0 S γ w a hW hF) fun e a' w' hE=>?_);obtain⟨S',γ',f',μ',g1,g2,g3,g5⟩:=hE;cases e with
 |normal=>exact wpIn_mono (g5 c2 h2 w0 S' γ' w' a' g2 g3) fun e a'' w'' hh=>hh.ext g1
 |_=>exact⟨S',γ',f',μ',g1,g2,g3,g5⟩
theorem Da {o:b5} {x y:av} {t:Bool} (ho:ev f o= .pv (.bool t)) (h:Ap C l own n m (bif t then x else y) R f μ):Ap C l own n m (.cond o x y) R f μ:=by
 intro c hc w0 S γ w a hW hF;obtain⟨q,c1,c2,rfl,h0,h1,h2⟩:=tO hc;have hv:=aR (w:=w) (S:=S) (γ:=γ) (f:=f) (a:=a) h0 fun t _=>hF.val t
 rw[ho]at hv;have hv:=c6 hv;refine wpIn_cond hv ?_;cases t with
 |true=>exact h c1 h1 w0 S γ w a hW hF
 |false=>exact h c2 h2 w0 S γ w a hW hF
theorem qg {id:Nat} {x:av} (h:Ap C l own n m x (dn id R) f μ):Ap C l own n m (.block id x) R f μ:=by
 intro c hc w0 S γ w a hW hF;obtain⟨c1,rfl,h1⟩:=nj hc;refine wpIn_block (wpIn_mono (h c1 h1 w0 S γ w a hW hF) fun e a' w' hE=>?_);obtain⟨S',γ',f',μ',g1,g2,g3,g5⟩:=hE;cases e with
 |exit i =>
  simp only[dn]at g5;simp only[Exit.inBlock];by_cases hi:i=id
  ·subst hi;rw[if_pos rfl];rw[Nat.beq_refl,cond_true]at g5;exact⟨S',γ',f',μ',g1,g2,g3,g5⟩
  rw[if_neg hi];rw[ui hi,cond_false]at g5;exact⟨S',γ',f',μ',g1,g2,g3,g5⟩
 |_=>exact⟨S',γ',f',μ',g1,g2,g3,g5⟩
theorem E4 (h:R .ret f μ):Ap C l own n m .ret R f μ:=by
 intro c hc w0 S γ w a hW hF;obtain rfl:=vw hc;exact wpIn_ret ⟨S,γ,f,μ,ig.refl _ _ _ _,hW,hF,h⟩
theorem Db (h:R .normal f μ):Ap C l own n m .skip R f μ:=by
 intro c hc w0 S γ w a hW hF;obtain rfl:=tP hc;exact wpIn_skip ⟨S,γ,f,μ,ig.refl _ _ _ _,hW,hF,h⟩
theorem j0 (cm:Bool) {al:List dc} (hs:List (Nat×Hint)) (h:eL (R .normal) (bN (aq C) (aF C) cm false al hs 0 [] [] f μ)):Ap C l own n m (.region false al) R f μ:=by
 intro c hc;obtain⟨id,ops,rfl,hc,-⟩:=iw hc;unfold eL at h;split at h
 ·rename_i vc pr f' μ' he;obtain⟨hvc,hpr,hR⟩:=h;intro w0 S γ w a hW hF;refine wpIn_region ?_;obtain⟨-,F,M,V,h1,h2,h3,h4,h5⟩:=cJ al 0 [] [] f μ vc pr f' μ' he hvc hpr;obtain⟨hl,hat⟩:=eD hc;replace hl:al.length=ops.size:=hl.trans (Array.length_toList);rw[Nat.zero_add]at h3 h4;have key:∀(l' k:Nat),k+l'=ops.size→∀(S1:Nat→Prop) (γ1:Gh) (w1:World) (a1:Act),Ext w S γ w1 S1 γ1→Wd C w0 S1 γ1 (M k) w1→FR C.D n w1 S1 γ1 (F k) a1→wpOpsIn (Fence.wide.inRound l) 0 C.P ops (Ends C n m w0 w S γ R) (List.range' k l') a1 w1:=by
   intro l';induction l' with
   |zero =>
    intro k hk S1 γ1 w1 a1 hE hW1 hF1;simp only[List.range'_zero,wpOpsIn];have:k=al.length:=by rw[hl];omega
    subst this;rw[h4]at hW1;rw[h3]at hF1;exact⟨S1,γ1,f',μ',hE.toM m,hW1,hF1,hR⟩
   |succ l' ih =>
    intro k hk S1 γ1 w1 a1 hE hW1 hF1;rw[List.range'_succ,wpOpsIn_cons];have hkl:k<ops.size:=by omega
    have ho:ops[k]?=some ops[k]:=by simp[hkl]
    obtain⟨ao,hao,hco⟩:=hat k ops[k] (by rw[Array.getElem?_toList];exact ho);obtain⟨vcj,prj,k1,k2,k3,k4⟩:=h5 k ao hao;rw[Nat.zero_add]at k1 k4;obtain⟨-,-,hdst,hlt,-⟩:=bH hco;refine zk ho (BA hco) (bF hW1 hco k1 k2 k3 (fun t _=>hF1.val t) fun u w2 S2 γ2 hE2 hW2 hv=>?_);refine ih (k+1) (by omega) S2 γ2 w2 _ (hE.trans hE2) hW2 ?_;rw[k4,hdst];exact(hF1.ext hE2).put hv hlt
  rw[List.range_eq_range'];exact key ops.size 0 (by omega) S γ w a (Ext.refl _ _ _) (by rw[h2];exact hW) (by rw[h1];exact hF)
 exact h.elim
end
end
section
def BB (q:Nat):AF→Bool
 |[]=>true
 |(_,.ptr b _ _)::r=>Nat.blt b q&&BB q r
 |_::_=>false
theorem sE {q:Nat}:∀{g:AF},BB q g=true→∀t,get g t= .any∨∃b gn off,get g t= .ptr b gn off∧b<q
 |[],_,t=>.inl rfl
 |(d,v)::r,h,t=>by
  cases v<;>simp only[BB,Bool.false_eq_true,Bool.and_eq_true]at h;rename_i b gn off;simp only[get];cases hd:Nat.beq d t with
  |true=>exact .inr ⟨b,gn,off,rfl,Nat.blt_eq.mp h.1⟩
  |false=>exact sE h.2 t
def xp:AV→Bool
 | .pv (.int _ _)=>true
 | .pv (.bool _)=>true
 |_=>false
theorem Aq {a:AV} {v:Value} {w w':World} {S S':Nat→Prop} {γ γ':Gh} (h:xp a=true) (hv:VR w S γ a v):VR w' S' γ' a v:=by
 unfold xp at h;split at h
 ·rw[fO hv];exact .pv _ _ (.int _ _)
 ·rw[c6 hv];exact .pv _ _ (.bool _)
 cases h
structure BC (k:eN):Prop where
 cells:∀a∈k.cells,xp a=true
 frozen:k.frozen=false
 gen:k.gen=0
 sz:k.sz≠0
def E5 (γ:Gh) (q l g:Nat):Prop:=g=l∨∃b e,b<q∧γ b=some e∧e.cb=g
structure G9 (Fo:Nat→Prop) (w1 w:World):Prop where
 os:w.os=w1.os
 tape:w.tape=w1.tape
 output:w.output=w1.output
 size:w1.heap.size≤w.heap.size
 block:∀g,g<w1.heap.size→¬Fo g→w.heap[g]?=w1.heap[g]?
def sF (L:Loop) (st:Bool):Loop:={L with state:=bif st then .done else .ready,pending:=bif st then some .ret else none}
def busy (L:Loop):Loop:={L with state:=.busy,pending:=none}
structure Site (σ:Type) where
 C:Ctx
 w0:World
 w1:World
 S:Nat→Prop
 γ:Gh
 q:Nat
 l:Nat
 fo:σ→AM
 L:Loop
 stop:σ→Bool
structure Site.OK {σ:Type} (X:Site σ):Prop where
 D:X.C.D=[]
 env:X.C.E X.w0
 below:Below X.w0.heap.size X.w0 X.w1
 live:∀g,X.S g→g<X.w1.heap.size
 l0:X.w0.heap.size≤X.l
 l1:X.l<X.w1.heap.size
 cb:∀b e,b<X.q→X.γ b=some e→X.w0.heap.size≤e.cb∧e.cb<X.w1.heap.size∧e.cb≠X.l∧¬X.S e.cb
 len:∀k,(X.fo k).length=X.q
 lit:∀k b,b∈X.fo k→BC b
variable {σ:Type}
def Site.E (X:Site σ) (k:σ) (w:World):Prop:=G9 (E5 X.γ X.q X.l) X.w1 w∧ke X.w0 X.S (cw X.γ X.q) (X.fo k) w∧w.heap[X.l]?=some (.loop (sF X.L (X.stop k)))
theorem Site.OK.Dc {X:Site σ} (hX:X.OK) {g:Nat} (hg:E5 X.γ X.q X.l g):X.w0.heap.size≤g∧g<X.w1.heap.size:=by
 rcases hg with rfl|⟨b,e,h1,h2,rfl⟩
 ·exact⟨hX.l0,hX.l1⟩
 exact⟨(hX.cb b e h1 h2).1,(hX.cb b e h1 h2).2.1⟩
theorem Site.OK.ou {X:Site σ} (hX:X.OK) {w:World} (h:G9 (E5 X.γ X.q X.l) X.w1 w):Below X.w0.heap.size X.w0 w :=
 ⟨h.os.trans hX.below.os,h.tape.trans hX.below.tape,h.output.trans hX.below.output,Nat.le_trans hX.below.size h.size,fun g hg =>
  (h.block g (Nat.lt_of_lt_of_le hg hX.below.size) fun hf=>by have:=(hX.Dc hf).1;omega).trans (hX.below.block g hg)⟩
theorem Site.OK.hE {X:Site σ} (hX:X.OK) (k:σ) (w w':World) (h:X.E k w) (hb:Below w.heap.size w w'):X.E k w':=by
 obtain⟨h1,h2,h3⟩:=h;have hl:X.l<w.heap.size:=Nat.lt_of_lt_of_le hX.l1 h1.size;refine⟨⟨hb.os.trans h1.os,hb.tape.trans h1.tape,hb.output.trans h1.output,Nat.le_trans h1.size hb.size,fun g hg hf=>(hb.block g (Nat.lt_of_lt_of_le hg h1.size)).trans (h1.block g hg hf)⟩,?_,(hb.block _ hl).trans h3⟩;exact h2.stay (S':=X.S) ⟨⟨fun _ h=>h,fun g hg=>hb.block g (Nat.lt_of_lt_of_le (hX.live g hg) h1.size)⟩,fun _ e h=>⟨e,h,Nat.le_refl _,fun _=>rfl⟩,fun _ h=>.inl h,fun b e h=>.inl ⟨b,e,h,rfl⟩,hb.size⟩ (fun b e he hlt=>hb.block _ hlt) fun b k e _ _ _ _ h=>h
def Site.yB (X:Site σ) (hX:X.OK):zj σ:=⟨X.C.P,X.C.mixed,[],X.E,hX.hE,E5 X.γ X.q X.l⟩
def Dd (μ1:AM) (go:Bool):Exit→AF→AM→Prop:=fun e _ μ=>match e with
 | .normal=>go=true∧∃junk,μ=μ1++junk
 | .ret=>go=false∧∃junk,μ=μ1++junk
 |_=>False
theorem gX {γ:Gh} {q b:Nat} {e:tG} (h:cw γ q b=some e):b<q∧γ b=some e:=by
 unfold cw at h;split at h
 ·exact⟨by assumption,h⟩
 cases h
theorem vx {w0 w w':World} {S S':Nat→Prop} {γ:Gh} {μ:AM} (h:ke w0 S γ μ w) (hl:∀b∈μ,BC b) (hS:∀b e,b<μ.length→γ b=some e→¬S' e.cb) (hh:∀b e,b<μ.length→γ b=some e→w'.heap[e.cb]?=w.heap[e.cb]?):ke w0 S' γ μ w':=by
 refine⟨fun b k hk hz=>?_,fun b k hk hz=>?_,h.none,h.inj⟩
 ·obtain⟨e,cs,h1,h2,h3,h4,h5,h6,h7,h8,h9⟩:=h.blk b k hk hz;have hb:=(List.getElem?_eq_some_iff.mp hk).1;refine⟨e,cs,h1,h2,h3,h4.congr (hh b e hb h1) rfl id,h5,h6,fun i a ha=>?_,h8,fun _=>hS b e hb h1⟩;obtain⟨v,g1,g2,g3⟩:=h7 i a ha;exact⟨v,g1,Aq ((hl k (List.mem_of_getElem? hk)).cells a (List.mem_of_getElem? ha)) g2,g3⟩
 exact absurd hz (hl k (List.mem_of_getElem? hk)).sz
theorem Site.OK.round {X:Site σ} (hX:X.OK) {own:Nat→Bool} {n p1 p2:Nat} {xa xb:av} (hxa:comp X.C.P own n X.L.assign=some xa) (hxb:comp X.C.P own n X.L.body=some xb)
  (hps:X.L.params=#[p1,p2]) (hp1:p1<n) (hp2:p2<n) (hn:X.L.tmps.size=n) {g0:AF} (hg0:BB X.q g0=true) (hgv:∀t,VR X.w1 X.S (cw X.γ X.q) (get g0 t) ((⟨X.L.tmps,[]⟩:Act).eval (.tmp t)))
  {v1 v2:PV} {k k':σ} {go:Bool} (hk:X.stop k=false) (hk':X.stop k'= !go)
  (hw:Ap X.C X.l own n X.q xa (cW (fun f μ=>Ap X.C X.l own n X.q xb (Dd (X.fo k') go) f μ) (fun _ _ _=>False)) (put (put g0 (some p1) (.pv v1)) (some p2) (.pv v2)) (X.fo k))
  (μ:AM):Bv (X.yB hX) X.l [.pv v1,.pv v2] k μ (.pv (.bool go)) k' μ:=by
 intro w0' S' γ' w vs hW hp hN;have hW':Wd ((X.yB hX).C k) w0' S' γ' μ w:=hW;obtain⟨hNe,hM,hrec⟩:X.E k w:=hW'.E;obtain⟨hNe0,-,-⟩:X.E k w0':=hW'.env;have hs0:X.w1.heap.size≤w0'.heap.size:=hNe0.size;have hsw:w0'.heap.size≤w.heap.size:=hW'.below.size;obtain⟨u1,u2,rfl⟩:∃u1 u2,vs=[u1,u2]:=by
  have:=hp.len;match vs,this with
  |[a,b],_=>exact⟨a,b,rfl⟩
 have hu1:=hp.at_ 0 _ _ rfl rfl;have hu2:=hp.at_ 1 _ _ rfl rfl;rw[hk]at hrec;have hy:=run_yield (P:=X.C.P) (args:=[u1,u2].toArray) hrec (by simp[sF,hps]);refine⟨X.L.fn,_,X.L.assign,X.L.body,hy,roundIn_of_wpIn trivial ?_⟩;have hnF:∀g,S' g→¬E5 X.γ X.q X.l g:=fun g hg hf=>(hN g hf).2 hg
 let SB:Nat→Prop:=fun g=>g<w.heap.size∧¬∃b e,b<X.q∧X.γ b=some e∧e.cb=g
 have hSB:∀g,S' g→SB g:=fun g hg=>⟨hW'.live g hg,fun ⟨b,e,h1,h2,h3⟩=>hnF g hg (.inr ⟨b,e,h1,h2,h3⟩)⟩
 have hSl:SB X.l:=⟨Nat.lt_of_lt_of_le hX.l1 hNe.size,fun ⟨b,e,h1,h2,h3⟩=>(hX.cb b e h1 h2).2.2.1 h3⟩
 have hMB:ke X.w0 SB (cw X.γ X.q) (X.fo k) w:=vx hM (hX.lit k) (fun b e _ h1 hs=>hs.2 ⟨b,e,(gX h1).1,(gX h1).2,rfl⟩) fun _ _ _ _=>rfl
 have hWB:Wd X.C X.w0 SB (cw X.γ X.q) (X.fo k) w:=⟨hMB,hX.ou hNe,fun g hg=>hg.1,hX.env⟩
 have hF0:FR X.C.D n w SB (cw X.γ X.q) g0 ⟨X.L.tmps,[]⟩:=⟨hn,hX.D.symm,fun t=>by
  have:=hgv t;rcases sE hg0 t with h|⟨b,gn,off,h,hb⟩
  ·rw[h];exact .any _
  rw[h]at this ⊢;generalize (⟨X.L.tmps,[]⟩:Act).eval (.tmp t)=u at this;cases this with
  |ptr _ _ _ _ e a q1 q2 q3 q4=>exact .ptr b gn off _ e a q1 q2 q3 q4⟩
 have up:∀{v:PV} {u:Value},VR w S' γ' (.pv v) u→VR w SB (cw X.γ X.q) (.pv v) u:=fun h=>.pv _ _ ((cf h).up hSB)
 have hF:FR X.C.D n w SB (cw X.γ X.q) (put (put g0 (some p1) (.pv v1)) (some p2) (.pv v2)) ⟨(X.L.params.zip [u1,u2].toArray).foldl (fun t (p,v)=>t.setIfInBounds p v) X.L.tmps,[]⟩:=by
  have:=(hF0.put (up hu1) (d:=some p1) (by rintro t ⟨⟩;exact hp1)).put (up hu2) (d:=some p2) (by rintro t ⟨⟩;exact hp2);rw[hps];simpa [Act.put]using this
 refine wpIn_mono (hw _ hxa X.w0 SB _ w _ hWB hF) fun e a1 w2 hE=>?_
 obtain⟨S1,γ1,f1,μ1,hE1,hW1,hF1,hR1⟩:=hE;cases e with
 |normal=>?_
 |exit id=>exact hR1.elim
 |goto id=>exact hR1.elim
 |ret=>exact hR1.elim
 |panic c=>exact hR1.elim
 |outgrown=>exact hR1.elim
 have hl1:w2.heap[X.l]?=some (.loop (sF X.L false)):=(hE1.stay.blk _ hSl).trans hrec;refine⟨_,run_beginRound hl1 rfl,?_⟩;have hbl:=ot hl1;refine wpIn_mono (hR1 _ hxb X.w0 S1 γ1 _ a1 (hbl.wd hW1 hX.l0) (hbl.fr hF1)) fun e a2 w3 hE=>?_
 obtain⟨S2,γ2,f2,μ2,hE2,hW2,hF2,hR2⟩:=hE;have hl2':(w2.putObj X.l (.loop (busy X.L))).heap[X.l]?=some (.loop (busy X.L)):=World.putObj_heap_same (Array.getElem?_eq_some_iff.1 hl1).1;have hl2:w3.heap[X.l]?=some (.loop (busy X.L)):=(hE2.stay.blk _ (hE1.stay.set _ hSl)).trans hl2';have hbl2:=ot hl2;have hbusy:∀j:Option Code,({busy X.L with state:=if j.isNone then .ready else .done,pending:=j}:Loop)={X.L with state:=if j.isNone then .ready else .done,pending:=j}:=fun j=>rfl
 have fin:∀(jump:Option Code),({X.L with state:=if jump.isNone then .ready else .done,pending:=jump}:Loop)=sF X.L (X.stop k')→(∃junk,μ2=X.fo k'++junk)→jump.isNone=go →
   ∃v w4,(Instr.endRound X.l jump).run X.C.P w3= .ok v w4∧∃v' w0'' S'' γ'',Ending.returned v=Ending.returned v'∧vu (X.yB hX).Fo w0' w0''∧kD w S' γ' w4 S'' γ''∧Wd ((X.yB hX).C k') w0'' S'' γ'' μ w4∧NS (X.yB hX).Fo w0'' S''∧VR w4 S'' γ'' (.pv (.bool go)) v':=by
  rintro jump hj ⟨junk,rfl⟩ hgo;have hr:=run_endRound (P:=X.C.P) jump hl2;rw[hbusy,hj]at hr;refine⟨_,_,hr,?_⟩;generalize hw4:w3.putObj X.l (.loop (sF X.L (X.stop k')))=w4;have hoth:∀g,g≠X.l→w4.heap[g]?=w3.heap[g]?:=fun g hg=>by rw[←hw4];exact World.putObj_heap_other hg
  have hl4:w4.heap[X.l]?=some (.loop (sF X.L (X.stop k'))):=by rw[←hw4];exact World.putObj_heap_same (Array.getElem?_eq_some_iff.1 hl2).1
  have hsz:w4.heap.size=w3.heap.size:=by rw[←hw4];simp
  have hos:w4.os=w3.os∧w4.tape=w3.tape∧w4.output=w3.output:=by rw[←hw4];exact⟨rfl,rfl,rfl⟩
  have hsz2:w.heap.size≤w3.heap.size:=Nat.le_trans hE1.size (by have:=hE2.size;rwa [World.putObj_size]at this);have hblk:∀g,g<w.heap.size→¬E5 X.γ X.q X.l g→w4.heap[g]?=w.heap[g]?:=fun g hg hf=>by
   have hgl:g≠X.l:=fun h=>hf (.inl h)
   have hs:SB g:=⟨hg,fun ⟨b,e,h1,h2,h3⟩=>hf (.inr ⟨b,e,h1,h2,h3⟩)⟩
   rw[hoth g hgl,hE2.stay.blk g (hE1.stay.set g hs),World.putObj_heap_other hgl,hE1.stay.blk g hs]
  have hb3:=hX.ou hNe;have hd3:=hW2.below;let w0'':World:={w4 with heap:=w4.heap.extract 0 w0'.heap.size}
  have hs00:w0''.heap.size=w0'.heap.size:=by
   show(w4.heap.extract 0 w0'.heap.size).size=_;rw[Array.size_extract];omega
  have h00:∀g,g<w0'.heap.size→w0''.heap[g]?=w4.heap[g]?:=fun g hg=>by
   show(w4.heap.extract 0 w0'.heap.size)[g]?=_;rw[Array.getElem?_extract_of_lt (by omega)];simp only[Nat.zero_add];rw[Array.getElem?_eq_getElem]
  have hM2:ke X.w0 X.S (cw X.γ X.q) (X.fo k') w4:=by
   refine⟨fun b kb hkb hz=>?_,fun b kb hkb hz=>absurd hz (hX.lit k' kb (List.mem_of_getElem? hkb)).sz,fun b hb=>by
    have:=hX.len k';unfold cw;rw[if_neg (by omega)],fun b b' e e' h1 h2 h3=>hM.inj b b' e e' h1 h2 h3⟩
   have hbq:b<X.q:=by rw[←hX.len k'];exact(List.getElem?_eq_some_iff.mp hkb).1
   have hL:=hX.lit k' kb (List.mem_of_getElem? hkb);obtain⟨e2,cs,g1,g2,g3,g4,g5,g6,g7,g8,g9⟩:=hW2.mem.blk b kb (by rw[List.getElem?_append_left (by rw[hX.len k'];exact hbq)];exact hkb) hz;have hk0:b<(X.fo k).length:=by rw[hX.len k];exact hbq
   obtain⟨e,q1,q2,-,-,q5,-⟩:=hM.CB (List.getElem?_eq_getElem hk0);have hL0:=hX.lit k _ (List.getElem_mem hk0);obtain⟨e1,r1,r2,r3⟩:=hE1.gh b e hbq q1;obtain⟨e2',s1,s2,s3⟩:=hE2.gh b e1 hbq r1;rw[g1]at s1;injection s1 with s1
   subst s1;have hz1:e.gen=0:=by rw[q2];exact hL0.gen
   have hz2:e2.gen=0:=by rw[g2];exact hL.gen
   obtain rfl:e1=e:=r3 (by omega);obtain rfl:e2=e1:=s3 (by omega);have hcb:=hX.cb b e2 hbq (gX q1).2;refine⟨e2,cs,q1,g2,g3,g4.congr (hoth _ hcb.2.2.1) rfl id,g5,g6,fun i a ha=>?_,q5,fun _=>hcb.2.2.2⟩;obtain⟨v,t1,t2,t3⟩:=g7 i a ha;exact⟨v,t1,Aq (hL.cells a (List.mem_of_getElem? ha)) t2,t3⟩
  have hNe4:G9 (E5 X.γ X.q X.l) X.w1 w4:=⟨by rw[hos.1,hd3.os,←hX.below.os],by rw[hos.2.1,hd3.tape,←hX.below.tape],by rw[hos.2.2,hd3.output,←hX.below.output],by have:=hNe.size;omega,fun g hg hf=>(hblk g (Nat.lt_of_lt_of_le hg hNe.size) hf).trans (hNe.block g hg hf)⟩
  have hE0:X.E k' w0'':=⟨⟨hNe4.os,hNe4.tape,hNe4.output,by rw[hs00];exact hs0,fun g hg hf=>(h00 g (by omega)).trans (hNe4.block g hg hf)⟩,
   vx hM2 (hX.lit k') (fun b e hb h1=>(hX.cb b e (gX h1).1 (gX h1).2).2.2.2) fun b e hb h1=>h00 _ (by have:=(hX.cb b e (gX h1).1 (gX h1).2).2.1;omega),(h00 _ (by have:=hX.l1;omega)).trans hl4⟩
  have hExt:kD w S' γ' w4 S' γ':=⟨⟨fun _ h=>h,fun g hg=>hblk g (hW'.live g hg) (hnF g hg)⟩,fun _ e h=>⟨e,h,Nat.le_refl _,fun _=>rfl⟩,fun _ h=>.inl h,fun b e h=>.inl ⟨b,e,h,rfl⟩,by omega⟩
  have hb':=hW'.below;refine⟨_,w0'',S',γ',rfl,⟨?_,?_,?_,hs00,fun g hf=>?_⟩,hExt,⟨?_,?_,fun g hg=>by have:=hW'.live g hg;omega,hE0⟩,fun g hg=>?_,?_⟩
  ·exact hNe4.os.trans hNe0.os.symm
  ·exact hNe4.tape.trans hNe0.tape.symm
  ·exact hNe4.output.trans hNe0.output.symm
  ·by_cases hg:g<w0'.heap.size
   ·rw[h00 g hg,hblk g (by omega) hf,hb'.block g hg]
   rw[Array.getElem?_eq_none (by omega),Array.getElem?_eq_none (by omega)]
  ·have hm:ke w0' S' γ' μ w4:=hW'.mem.stay hExt (fun b e he hlt=>hblk _ hlt fun hf=>by
    have h1:=(hX.Dc hf).2;have hb:b<μ.length:=by
     apply Classical.byContradiction;intro hnb;rw[hW'.mem.none b (by omega)]at he;cases he
    obtain⟨e0,q1,-,-,-,q5,-⟩:=hW'.mem.CB (List.getElem?_eq_getElem hb);rw[he]at q1;injection q1 with q1
    subst q1;omega) fun b k e _ _ _ _ h=>h
   exact⟨fun b k hk hz=>by rw[hs00];exact hm.blk b k hk hz,fun b k hk hz=>by rw[hs00];exact hm.mp b k hk hz,hm.none,hm.inj⟩
  ·exact⟨rfl,rfl,rfl,by show(w4.heap.extract 0 w0'.heap.size).size≤_;rw[Array.size_extract];omega,fun g hg=>(h00 g (by omega)).symm⟩
  ·rw[hs00];exact hN g hg
  rw[hgo];exact .pv _ _ (.bool _)
 cases e with
 |normal =>
  obtain⟨hgo,hj⟩:=hR2;subst hgo;obtain⟨v,w4,h1,h2⟩:=fin none (by rw[hk'];rfl) hj rfl;exact⟨v,w4,h1,h2⟩
 |ret =>
  obtain⟨hgo,hj⟩:=hR2;subst hgo;obtain⟨v,w4,h1,h2⟩:=fin (some .ret) (by rw[hk'];rfl) hj rfl;exact⟨v,w4,h1,h2⟩
 |exit id=>exact hR2.elim
 |goto id=>exact hR2.elim
 |panic c=>exact hR2.elim
 |outgrown=>exact hR2.elim
end
section
def mark (r:Nat):Deferred:={target:=.collected r,args:=#[]}
def Mk (w0:World) (S:Nat→Prop) (w:World) (D:List Deferred):Prop :=
 ∃l:List Nat,D=l.map mark∧l.Nodup∧∀r∈l,S r∧w0.heap.size≤r∧w.heap[r]?=some (.deferred (some []))
def Ar (C:Ctx) (n m:Nat) (w0 w:World) (S:Nat→Prop) (γ:Gh) (R:Exit→AF→AM→Prop):Exit→Act→World→Prop :=
 fun x a' w'=>∃D S' γ' f' μ',ig m w S γ w' S' γ'∧Wd C w0 S' γ' μ' w'∧FR D n w' S' γ' f' a'∧Mk w0 S' w' D∧R x f' μ'
def EJ (C:Ctx) (own:Nat→Bool) (n m:Nat) (x:av) (R:Exit→AF→AM→Prop) (f:AF) (μ:AM):Prop :=
 ∀c,comp C.P own n c=some x→∀(D:List Deferred) (w0:World) (S:Nat→Prop) (γ:Gh) (w:World) (a:Act),Wd C w0 S γ μ w→FR D n w S γ f a→Mk w0 S w D→c.wpIn Fence.wide 1 C.P (Ar C n m w0 w S γ R) a w
section
variable {C:Ctx} {own:Nat→Bool} {n m:Nat} {R:Exit→AF→AM→Prop} {f:AF} {μ:AM}
theorem Mk.ext {w0 w w':World} {S S':Nat→Prop} {γ γ':Gh} {D:List Deferred} (h:Mk w0 S w D) (hE:ig m w S γ w' S' γ'):Mk w0 S' w' D:=by
 obtain⟨l,h1,h2,h3⟩:=h;refine⟨l,h1,h2,fun r hr=>?_⟩;obtain⟨q1,q2,q3⟩:=h3 r hr;exact⟨hE.stay.set r q1,q2,(hE.stay.blk r q1).trans q3⟩
theorem Ar.ext {w0 w w1:World} {S S1:Nat→Prop} {γ γ1:Gh} {x:Exit} {a':Act} {w':World} (hE:ig m w S γ w1 S1 γ1) (h:Ar C n m w0 w1 S1 γ1 R x a' w'):Ar C n m w0 w S γ R x a' w':=by
 obtain⟨D,S',γ',f',μ',g1,g2,g3,g4,g5⟩:=h;exact⟨D,S',γ',f',μ',hE.trans g1,g2,g3,g4,g5⟩
theorem fy {x:av} (h:∀D,Aw {C with D:=D} own n m x R f μ):EJ C own n m x R f μ:=by
 intro c hc D w0 S γ w a hW hF hM;rw[wpIn_wide];refine wp_mono (h D c hc w0 S γ w a ⟨hW.mem,hW.below,hW.live,hW.env⟩ hF) fun e a' w' hh=>?_
 obtain⟨S',γ',f',μ',h1,h2,h3,h4⟩:=hh;exact⟨D,S',γ',f',μ',h1,⟨h2.mem,h2.below,h2.live,h2.env⟩,h3,hM.ext h1,h4⟩
theorem hZ {x y:av} (h:EJ C own n m x (cW (fun f μ=>EJ C own n m y R f μ) R) f μ):EJ C own n m (.seq x y) R f μ:=by
 intro c hc D w0 S γ w a hW hF hM;obtain⟨c1,c2,rfl,h1,h2⟩:=lX hc;refine wpIn_seq (wpIn_mono (h c1 h1 D w0 S γ w a hW hF hM) fun e a' w' hE=>?_);obtain⟨D',S',γ',f',μ',g1,g2,g3,g4,g5⟩:=hE;cases e with
 |normal=>exact wpIn_mono (g5 c2 h2 D' w0 S' γ' w' a' g2 g3 g4) fun e a'' w'' hh=>hh.ext g1
 |_=>exact⟨D',S',γ',f',μ',g1,g2,g3,g4,g5⟩
theorem qh {id:Nat} {x:av} (h:EJ C own n m x (dn id R) f μ):EJ C own n m (.block id x) R f μ:=by
 intro c hc D w0 S γ w a hW hF hM;obtain⟨c1,rfl,h1⟩:=nj hc;refine wpIn_block (wpIn_mono (h c1 h1 D w0 S γ w a hW hF hM) fun e a' w' hE=>?_);obtain⟨D',S',γ',f',μ',g1,g2,g3,g4,g5⟩:=hE;cases e with
 |exit i =>
  simp only[dn]at g5;simp only[Exit.inBlock];by_cases hi:i=id
  ·subst hi;rw[if_pos rfl];rw[Nat.beq_refl,cond_true]at g5;exact⟨D',S',γ',f',μ',g1,g2,g3,g4,g5⟩
  rw[if_neg hi];rw[ui hi,cond_false]at g5;exact⟨D',S',γ',f',μ',g1,g2,g3,g4,g5⟩
 |_=>exact⟨D',S',γ',f',μ',g1,g2,g3,g4,g5⟩
theorem sG (ay:List Nat) {x:av} (hk:vh ay m μ.length=true) (h:EJ C own n m x R (gu ay f) (gW ay μ)):EJ C own n m x R f μ:=by
 intro c hc D w0 S γ w a hW hF hM;obtain⟨hm,hW'⟩:=Ah ay hk hW;refine wpIn_mono (h c hc D w0 S (qX ay γ) w a hW' (Ai ay hF) hM) fun e a' w' hh=>?_
 obtain⟨D',S',γ',f',μ',g1,g2,g3,g4,g5⟩:=hh;exact⟨D',S',γ',f',μ',wV ay hm g1,g2,g3,g4,g5⟩
theorem De {a:AV} {d q:Nat} (h:xp a=true):cZ d q a=true:=by
 unfold xp at h;split at h
 ·cases d<;>rfl
 ·cases d<;>rfl
 cases h
theorem BD {q:Nat} (h:∀b∈μ,BC b):aS μ q=true:=by
 unfold aS;rw[List.all_eq_true];intro k hk;rw[List.all_eq_true];exact fun a ha=>De ((h k hk).cells a ha)
theorem xq {γ:Gh} {q b:Nat} (h:b<q):cw γ q b=γ b:=by simp[cw,h]
theorem xr {g0 f:AF} {q:Nat} {w w':World} {S S':Nat→Prop} {γ:Gh} {a:Act} (hg0:BB q g0=true) (hsub:Sub g0 f) (hv:∀t,VR w S γ (get f t) (a.eval (.tmp t))) (t:Nat):VR w' S' (cw γ q) (get g0 t) (a.eval (.tmp t)):=by
 rcases ve hsub t with h|h
 ·rw[h];exact .any _
 rcases sE hg0 t with h'|⟨b,gn,off,h',hb⟩
 ·rw[h'];exact .any _
 have hv:=hv t;rw[←h,h']at hv;rw[h'];generalize a.eval (.tmp t)=u at *;cases hv with
 |ptr _ _ _ _ e x q1 q2 q3 q4=>exact .ptr b gn off _ e x (by rw[xq hb];exact q1) q2 q3 q4
theorem E6 {w:World} {S:Nat→Prop} {γ:Gh} {gid:FuncId} {bt:Nat} {e:tG} {v:Value} (h1:γ bt=some e) (h2:e.gen=0) (h:VR w S γ (.fn gid [.ptr bt 0 0]) v):v= .func (.func gid) #[] #[.pointer (some ⟨e.cb,0,none⟩)]:=by
 cases h with
 |fn _ _ us hl hat =>
  match us,hl,hat with
  |[u],_,hat =>
   have hu:=hat 0 _ _ rfl rfl;cases hu with
   |ptr _ _ _ _ e2 a2 g1 g2 g3 g4 =>
    rw[h1]at g1;injection g1 with g1
    subst g1;rw[g4 h2.symm]
  |[],hl,_=>cases hl
  |_::_::_,hl,_=>simp at hl
end
theorem qj {σ : Type} {C : Ctx} {own : Nat → Bool} {n m q bt p1 p2 : Nat} {g : b5} {xa xb : av} {f g0 : AF} {k0 k' : σ} {fo : σ → AM} {stop : σ → Bool} {junk : AM} {gid : FuncId} {cells : List PV} {kb : eN} {rv : AV} {R : Exit → AF → AM → Prop}
    (hgv : ev f g = .fn gid [.ptr bt 0 0]) (hbt : q ≤ bt) (htb : (fo k0 ++ junk)[bt]? = some kb) (hkb : kb.cells = cells.map .pv) (hkg : kb.gen = 0) (hks : kb.sz ≠ 0) (hcal : eU C.P gid = true)
    (hlen : ∀ k, (fo k).length = q) (hlit : ∀ k b, b ∈ fo k → BC b) (hs0 : stop k0 = false) (hg0 : BB q g0 = true) (hsub : Sub g0 f) (hm : m ≤ q) (hp1 : p1 < n) (hp2 : p2 < n)
    (hcall : ∀ (w0 w1 : World) (S : Nat → Prop) (γ : Gh) (l : Nat) (L : Loop) (hX : (Site.mk { C with D := [] } w0 w1 S γ q l fo L stop).OK),
       (∀ v1 v2 k k1 go μ, stop k = false → stop k1 = !go →
          Ap { C with D := [] } l own n q xa (cW (fun f μ => Ap { C with D := [] } l own n q xb (Dd (fo k1) go) f μ) (fun _ _ _ => False)) (put (put g0 (some p1) (.pv v1)) (some p2) (.pv v2)) (fo k) → Bv (Site.yB _ hX) l [.pv v1, .pv v2] k μ (.pv (.bool go)) k1 μ) →
       HN (Site.yB _ hX) gid [.pv (.val (.func (.yield l) #[] #[])), .iptr cells 0] k0 [] rv k' [])
    (hN : stop k' = false → R .normal g0 (fo k')) (hS : stop k' = true → R .ret g0 (fo k')) : EJ C own n m (.range g [p1, p2] xa xb) R f (fo k0 ++ junk) := by
  intro c hc D w0 S γ w a hW hF hM
  obtain ⟨qo, qs, c1, c2, rfl, h0, h1, h2, h3⟩ := sD hc
  have hv := aR (w := w) (S := S) (γ := γ) (f := f) (a := a) h0 fun t _ => hF.val t
  rw [hgv] at hv
  obtain ⟨e, cs, t1, t2, t3, ⟨fz, t4, -⟩, t5, t6, t7, t8, -⟩ := hW.mem.blk bt kb htb hks
  have hcb : e.cb < w.heap.size := (Array.getElem?_eq_some_iff.mp t4).1
  have hfn := E6 t1 (t2.trans hkg) hv
  have hqs : qs = #[p1, p2] := by rw [← Array.toList_inj, h1]
  refine wpIn_rangeFunc fun fn _ => ?_
  let L : Loop := { state := .ready, pending := none, fn, tmps := a.tmps, params := qs, assign := c1, body := c2, defers := w.heap.size }
  let w1 : World := (w.alloc (.deferred (some []))).alloc (.loop L)
  have hsz : w1.heap.size = w.heap.size + 2 := by simp [w1, World.size_alloc]
  have hl1 : w1.heap[w.heap.size + 1]? = some (.loop L) := by
    have := World.alloc_heap_new (w.alloc (.deferred (some []))) (.loop L)
    rwa [World.size_alloc] at this
  have hlow : ∀ g, g < w.heap.size → w1.heap[g]? = w.heap[g]? := fun g hg => by
    show ((w.heap.push _).push _)[g]? = _
    rw [Array.getElem?_push_lt (by simp; omega), Array.getElem_push_lt hg, Array.getElem?_eq_getElem hg]
  have hr1 : w1.heap[w.heap.size]? = some (.deferred (some [])) := by
    show ((w.heap.push _).push _)[w.heap.size]? = _
    rw [Array.getElem?_push_lt (by simp), Array.getElem_push_eq]
  let SX : Nat → Prop := fun g => S g ∨ g = e.cb ∨ g = w.heap.size
  have hbs := hW.below.size
  have hX : (Site.mk { C with D := [] } w0 w1 SX γ q (w.heap.size + 1) fo L stop).OK := by
    refine ⟨rfl, hW.env, hW.below.trans ⟨rfl, rfl, rfl, by show w.heap.size ≤ w1.heap.size; omega, fun g hg => hlow g (by omega)⟩, fun g hg => ?_, by show w0.heap.size ≤ w.heap.size + 1; omega, by show w.heap.size + 1 < w1.heap.size; omega, fun b e2 hb he => ?_, hlen, hlit⟩
    · show g < w1.heap.size
      rcases hg with h | h | h
      · have := hW.live g h; omega
      · omega
      omega
    have hb : b < q := hb
    have he : γ b = some e2 := he
    have hbl : b < (fo k0).length := by rw [hlen]; exact hb
    have hk : (fo k0 ++ junk)[b]? = some (fo k0)[b] := by rw [List.getElem?_append_left hbl]; exact List.getElem?_eq_getElem hbl
    obtain ⟨e3, q1, -, -, q4, q5, q6⟩ := hW.mem.CB hk
    rw [he] at q1
    injection q1 with q1
    subst q1
    refine ⟨q5, by show e2.cb < w1.heap.size; omega, by show e2.cb ≠ w.heap.size + 1; omega, ?_⟩
    rintro (h | h | h)
    · exact q6 (hlit k0 _ (List.getElem_mem hbl)).frozen h
    · have := hW.mem.inj b bt e2 e he t1 h
      omega
    omega
  have hM0 : ke w0 S (cw γ q) (fo k0) w := by
    have := (Wd.drop hW (BD (hlit k0))).mem
    rwa [hlen] at this
  have hnS : ∀ b e, b < (fo k0).length → cw γ q b = some e → ¬ SX e.cb := fun b e hb he => (hX.cb b e (gX he).1 (gX he).2).2.2.2
  have hE1 : Site.E (Site.mk { C with D := [] } w0 w1 SX γ q (w.heap.size + 1) fo L stop) k0 w1 :=
    ⟨⟨rfl, rfl, rfl, Nat.le_refl _, fun _ _ _ => rfl⟩, vx hM0 (hlit k0) hnS (fun b e hb he => hlow _ (by
      have hk : (fo k0)[b]? = some (fo k0)[b] := List.getElem?_eq_getElem hb
      obtain ⟨e3, q1, -, -, q4, -, -⟩ := hM0.CB hk
      rw [he] at q1
      injection q1 with q1
      subst q1
      exact q4)), by rw [show sF L (stop k0) = L by rw [hs0]; rfl]; exact hl1⟩
  have hY := hcall w0 w1 SX γ (w.heap.size + 1) L hX fun v1 v2 k k1 go μ hk hk1 hw => hX.round (own := own) (n := n) h2 h3 hqs hp1 hp2 hF.size hg0 (fun t => xr (a := ⟨a.tmps, []⟩) hg0 hsub hF.val t) hk hk1 hw μ
  have hcalls := hY.2 w1 SX (fun _ => none) w1 [.func (.yield (w.heap.size + 1)) #[] #[], .pointer (some ⟨e.cb, 0, none⟩)]
    ⟨⟨fun b k hk => by simp at hk, fun b k hk => by simp at hk, fun _ _ => rfl, fun b b' e e' h => by cases h⟩, Below.refl _ _, hX.live, hE1⟩
    ⟨rfl, fun i x v hx hv => by
      match i, hx, hv with
      | 0, hx, hv =>
        injection hx with hx; injection hv with hv
        subst hx hv
        exact .pv _ _ (.val _)
      | 1, hx, hv =>
        injection hx with hx; injection hv with hv
        subst hx hv
        have hat : ∀ (i : Nat) p, cells[i]? = some p → ∃ v, cs[i]? = some v ∧ Is w S p v := fun i p hp => by
          obtain ⟨v, g1, g2, -⟩ := t7 i (.pv p) (by rw [hkb, List.getElem?_map, hp]; rfl)
          exact ⟨v, g1, cf g2⟩
        refine .iptr cells 0 e.cb 0 (fun i => cs.getD i undef) (.inr (.inl rfl)) (fun i p hp => ?_) fun i p hp => ?_
        · obtain ⟨v, g1, g2⟩ := hat i p hp
          have : w1.heap[e.cb]? = some (.cells cs kb.elem fz) := (hlow _ hcb).trans t4
          simp [World.cell?, this, g1]
        obtain ⟨v, g1, g2⟩ := hat i p hp
        rw [show cs.getD i undef = v by simp [Array.getD_eq_getD_getElem?, g1]]
        exact g2.stay ⟨fun _ h => .inl h, fun g hg => hlow g (hW.live g hg)⟩
      | _ + 2, hx, _ => simp at hx⟩
    (fun g hg => by
      have h1 : E5 γ q (w.heap.size + 1) g := hg
      refine ⟨(hX.Dc hg).2, fun hs => ?_⟩
      rcases h1 with rfl | ⟨b, e2, hb, he, rfl⟩
      · rcases hs with h | h | h
        · have := hW.live _ h; omega
        · omega
        omega
      exact (hX.cb b e2 hb he).2.2.2 hs)
  refine ⟨w.heap.size + 1, [mark w.heap.size], w1, { target := .fn (.func gid) #[.pointer (some ⟨e.cb, 0, none⟩)], args := #[.func (.yield (w.heap.size + 1)) #[] #[]] }, w1, gid, _, w1, run_enterLoop_outer .., ?_, fun _ _ => trivial, ?_, (fun h => by cases h), callsIn_wide.mpr (hcalls.mono fun x w' hh => ?_)⟩
  · simp [rangeCall, resolve, Act.eval] at hfn ⊢
    simp [hfn, Deferred.ofValue]
  · have := iG (C := C) (w := w1) hcal #[.func (.yield (w.heap.size + 1)) #[] #[], .pointer (some ⟨e.cb, 0, none⟩)]
    simpa [invoke] using this
  obtain ⟨v, w0', S', γ', rfl, hO, hE, hW', hN', hvr⟩ := hh
  obtain ⟨hNe, hM', hrec⟩ : Site.E (Site.mk { C with D := [] } w0 w1 SX γ q (w.heap.size + 1) fo L stop) k' w' := hW'.E
  have hrec : w'.heap[w.heap.size + 1]? = some (.loop (sF L (stop k'))) := hrec
  have hbl := ot hrec
  have hnb : (sF L (stop k')).state ≠ .busy := by
    cases stop k' <;> (simp [sF])
  have hend := run_endLoop (P := C.P) hrec hnb
  generalize hw4 : w'.putObj (w.heap.size + 1) (.loop { sF L (stop k') with state := .exhausted }) = w4 at hend
  have hoth : ∀ g, g ≠ w.heap.size + 1 → w4.heap[g]? = w'.heap[g]? := fun g hg => by rw [← hw4]; exact World.putObj_heap_other hg
  have hsz1 : w1.heap.size ≤ w'.heap.size := hNe.size
  have hsz4 : w4.heap.size = w'.heap.size := by rw [← hw4]; simp
  have hSXl : ∀ g, SX g → g < w1.heap.size ∧ g ≠ w.heap.size + 1 := fun g hg => ⟨hX.live g hg, by
    rcases hg with h | h | h
    · have := hW.live _ h; omega
    · omega
    omega⟩
  have hnF : ∀ g, SX g → ¬ E5 γ q (w.heap.size + 1) g := fun g hg hf => by
    rcases hf with rfl | ⟨b, e2, hb, he, rfl⟩
    · exact (hSXl _ hg).2 rfl
    exact (hX.cb b e2 hb he).2.2.2 hg
  have h41 : ∀ g, SX g → w4.heap[g]? = w1.heap[g]? := fun g hg => (hoth g (hSXl g hg).2).trans (hNe.block g (hSXl g hg).1 (hnF g hg))
  have hE4 : ig m w S γ w4 SX (cw γ q) := by
    refine ⟨⟨fun g h => .inl h, fun g hg => (h41 g (.inl hg)).trans (hlow g (hW.live g hg))⟩, fun b e2 hb he => ⟨e2, by rw [xq (by omega)]; exact he, Nat.le_refl _, fun _ => rfl⟩, fun g hg => ?_, fun b e2 he => .inl ⟨b, e2, (gX he).2, rfl⟩, by omega, fun g hg hn => ?_⟩
    rcases hg with h | rfl | rfl
    · exact .inl h
    · exact .inr (.inl ⟨bt, e, t1, rfl⟩)
    · exact .inr (.inr (Nat.le_refl _))
    have h1 : g ≠ w.heap.size + 1 := by omega
    rw [hoth g h1, hNe.block g (by show g < w1.heap.size; omega) fun hf => ?_]
    · exact hlow g hg
    rcases hf with rfl | ⟨b, e2, _, he, hh⟩
    · exact h1 rfl
    exact hn b e2 he hh
  have hWd : Wd C w0 SX (cw γ q) (fo k') w4 := by
    rw [← hw4]
    exact hbl.wd ⟨hM', hX.ou hNe, fun g hg => by have := (hSXl g hg).1; omega, hW.env⟩ (by omega)
  have hFR : FR (mark w.heap.size :: D) n w4 SX (cw γ q) g0 { a with defers := [mark w.heap.size] ++ a.defers } := ⟨hF.size, by rw [← hF.defers]; rfl, fun t => xr (a := a) hg0 hsub hF.val t⟩
  have hMk : Mk w0 SX w4 (mark w.heap.size :: D) := by
    obtain ⟨l, rfl, hnd, hl⟩ := hM
    refine ⟨w.heap.size :: l, rfl, List.nodup_cons.mpr ⟨fun h => ?_, hnd⟩, fun r hr => ?_⟩
    · have := hW.live _ (hl _ h).1
      omega
    rcases List.mem_cons.mp hr with rfl | hr
    · exact ⟨.inr (.inr rfl), hbs, (h41 _ (.inr (.inr rfl))).trans hr1⟩
    obtain ⟨q1, q2, q3⟩ := hl r hr
    exact ⟨.inl q1, q2, (h41 r (.inl q1)).trans ((hlow r (hW.live r q1)).trans q3)⟩
  cases hst : stop k' with
  | false =>
    refine ⟨_, _, hend, ?_⟩
    rw [hst]
    exact ⟨_, SX, _, g0, _, hE4, hWd, hFR, hMk, hN hst⟩
  | true =>
    refine ⟨_, _, hend, ?_⟩
    rw [hst]
    exact wpIn_ret ⟨_, SX, _, g0, _, hE4, hWd, hFR, hMk, hS hst⟩
theorem aF.I1 {C:Ctx} {g:FuncId} {as:List AV} {μ μ':AM} {r:AV} (h:aF C g as μ r μ') (D:List Deferred):aF {C with D:=D} g as μ r μ' :=
 ⟨h.1,fun w0 S γ w vs hW hp=>(h.2 w0 S γ w vs ⟨hW.mem,hW.below,hW.live,hW.env⟩ hp).mono fun e w' ⟨v,S',γ',h1,h2,h3,h4⟩=>⟨v,S',γ',h1,h2,⟨h3.mem,h3.below,h3.live,h3.env⟩,h4⟩⟩
def shut:List Nat→World→World
 |[],w=>w
 |r::l,w=>shut l (w.putObj r (.deferred none))
theorem pe {P:Program} {fn:Func} {tmps:Array Value} {R:Ending→World→Prop}:∀(l:List Nat) (w:World),l.Nodup→(∀r∈l,w.heap[r]?=some (.deferred (some []))) →
  LeavesIn Fence.wide 1 P fn tmps R [] .returning (shut l w)→LeavesInM Fence.wide 1 P fn tmps R (l.map mark) .returning w
 |[],_,_,_,h=>h
 |r::l,w,hn,hl,h=>by
  obtain⟨h1,h2⟩:=List.nodup_cons.mp hn;refine⟨by simp,.inl ⟨r,_,rfl,run_takeDeferred (hl r List.mem_cons_self),pe l _ h2 (fun r' hr'=>?_) h⟩⟩;rw[World.putObj_heap_other (by rintro rfl;exact h1 hr')];exact hl r' (List.mem_cons_of_mem _ hr')
theorem As {C:Ctx} {w0:World} {S:Nat→Prop} {γ:Gh} {μ:AM}:∀(l:List Nat) (w:World),l.Nodup→(∀r∈l,w0.heap.size≤r∧w.heap[r]?=some (.deferred (some [])))→Wd C w0 S γ μ w →
  Wd C w0 S γ μ (shut l w)∧(shut l w).heap.size=w.heap.size∧∀a v,VR w S γ a v→VR (shut l w) S γ a v
 |[],w,_,_,h=>⟨h,rfl,fun _ _ h=>h⟩
 |r::l,w,hn,hl,h=>by
  obtain⟨h1,h2⟩:=List.nodup_cons.mp hn;have hr:=hl r List.mem_cons_self;have hbl:=By hr.2;obtain⟨q1,q2,q3⟩:=As l (w.putObj r (.deferred none)) h2 (fun r' hr'=>⟨(hl r' (List.mem_cons_of_mem _ hr')).1,by
   rw[World.putObj_heap_other (by rintro rfl;exact h1 hr')];exact(hl r' (List.mem_cons_of_mem _ hr')).2⟩) (hbl.wd h hr.1)
  exact⟨q1,q2.trans (by simp),fun a v hv=>q3 a v (hbl.vr hv)⟩
theorem ov {C:Ctx} {own:Nat→Bool} {n k:Nat} {fid:FuncId} {rs:List jX} {x:av} {ps:List PV} {r:PV} (h:Fn C fid own n k rs x) (hk:ps.length=k) (hb:EJ C own n 0 x (jw rs r) (ji 0 (ps.map .pv)) []):aq C fid ps r:=by
 obtain⟨fn,c,h1,h2,h3,h4,h5,h6,h7⟩:=h.ex;refine⟨h7,fun w S us hE hS hp=>?_⟩;have hW:Wd C w S (fun _=>none) [] w:=⟨⟨fun b k hk=>by simp at hk,fun b k hk=>by simp at hk,fun _ _=>rfl,fun b b' e e' h=>by cases h⟩,Below.refl _ _,hS,hE⟩
 have hpv:PW (VR w S (fun _=>none)) (ps.map .pv) us:=PW.jI hp;have hus:us.length≤fn.ntmps:=by rw[←hp.len];omega
 refine callsIn_wide.mp (callsIn_of_wp_marks (F:=Fence.wide) (n:=1) h1 h2 trivial (wpIn_mono (hb c h3 [] w S (fun _=>none) w _ hW (by rw[←h5];exact mT hpv hus) ⟨[],rfl,List.nodup_nil,fun _ h=>by cases h⟩) fun e a' w' hh=>?_));obtain⟨D,S',γ',f',μ',g1,g2,g3,⟨l,rfl,gn,gl⟩,g4⟩:=hh;have fin:iV μ' r (aZ f' μ' rs)→LeavesInM Fence.wide 1 C.P fn a'.tmps (fun e w'=>∃v,e= .returned v∧Below w.heap.size w w'∧Is w' (fun g=>S g∨(w.heap.size≤g∧g<w'.heap.size)) r v) a'.defers .returning w':=by
  intro hret;unfold iV at hret;split at hret
  ·rename_i vc v e1;obtain⟨e2,e3⟩:=hret;rw[g3.defers];refine pe l w' gn (fun r hr=>(gl r hr).2.2) ?_;obtain⟨s1,s2,s3⟩:=As l w' gn (fun r hr=>(gl r hr).2) g2;generalize shut l w'=w2 at *;obtain⟨u,hu,hv⟩:=kl (a:={a' with defers:=[]}) s1 (⟨g3.size,h.dz.symm,fun t=>s3 _ _ (g3.val t)⟩:FR C.D n w2 S' γ' f' {a' with defers:=[]}) h4 e1 e2;refine⟨u,hu,u,rfl,s1.below,(vf s1 depth e3 hv).stay ⟨fun g hg=>?_,fun _ _=>rfl⟩⟩;rcases hg with hg|⟨b,e,he,rfl⟩
   ·rcases g1.more g hg with h|⟨b,e,h,-⟩|h
    ·exact .inl h
    ·cases h
    exact .inr ⟨h,s1.live g hg⟩
   rcases g1.cbs b e he with⟨b0,e0,h,-⟩|h
   ·cases h
   exact .inr ⟨h,s1.jt he⟩
  exact hret.elim
 cases e with
 |normal=>exact fin g4
 |ret=>exact fin g4
 |_=>exact g4.elim
end
end Pur
end Go.Proofs.YtaleoeblooeglaaGreatDoor
