/-
  Part of the proofs of TraceFigures and TraceCounts (Mem TrX Laid Post TrA Shelf Opn OpnU Typ TrL TrNA TrNC TrB TrPA TrPB TrPC TrPD TrPE TrF TrNB)
-/
import Derived.Test.YtfgcmogbdcifeaaGreatDoorP02
import Derived.WalkKit
import Derived.WalkSpells
import Derived.Lib.Hide
import Derived.Deep.Draws
import Derived.WalkSmall
import Derived.Test.YtfgcmogbdcifeaaGreatDoorProg
import Derived.Lib.LaidTab
import Derived.Lib.ItoaNum
import Derived.Below
import Derived.ChangeSame
import Derived.ProofKit
import Derived.Shelf.Strings.Builder1
import Derived.Shelf.Strings.Builder2
import Derived.Shelf.Strings.OnBuilder
import Derived.Shelf.Small.Bits
import Derived.Shelf.Small.Strs
import Derived.Shelf.Small.Wraps
import Derived.Shelf.Strings.BuilderF
import Derived.Shelf.Strings.BuilderK
import Derived.Shelf.Utf8.RuneCount
import Derived.Shelf.Strings.Builder2Cap
import Derived.Shelf.Strconv.Itoa0
import Derived.Shelf.Strconv.Itoa1
import Derived.Shelf.LaysM
import Derived.Shelf.Strconv.Itoa2
import Derived.Shelf.Strconv.Itoa3
import Derived.Shelf.Strings.Search1
import Derived.Shelf.Strings.Search2
import Derived.Shelf.Strings.Search3
import Derived.Shelf.Strings.Count
import Derived.Shelf.Strings.Shaped
import Derived.Shelf.Strings.Prefix
import Derived.Shelf.Strings.Split
import Derived.Shelf.Strings.Fields
import Derived.Shelf.Strings.Replace
import Derived.Shelf.Strings.SplitShaped
import Derived.Shelf.Unicode.Latin
import Derived.Shelf.Unicode.Decode
import Derived.Shelf.Strings.RuneCount
import Derived.Shelf.Bits.Mul64
import Derived.Shelf.Unicode.DecodeSlow
import Derived.Shelf.Unicode.DecodeAny
import Derived.Shelf.Unicode.Is16White
import Derived.Shelf.Unicode.IsSpaceAny
import Derived.Shelf.Unicode.Is16WhiteD
import Derived.Shelf.Unicode.IsSpaceAnyD
import Derived.Shelf.Strings.FieldsAny
import Derived.Shelf.Strings.FieldsFuncAny
import Derived.Shelf.Unicode.Is16Any
import Derived.Shelf.Unicode.Is32Any
import Derived.Shelf.Unicode.ExclAny
import Derived.Shelf.Strings.FieldsFuncGrows
import Derived.Shelf.Strings.BuilderCap
import Derived.Shelf.Slices.Turned
import Derived.Shelf.Slices.Equal
import Derived.Ground.Names2Prog
import Derived.Shelf.Slices.Clone
import Derived.Shelf.Slices.SearchI
import Derived.Shelf.Slices.Empties2
import Derived.Ground.SlgnProg
import Derived.Shelf.SlicesE.Clone
import Derived.Ground.SlsfProg
import Derived.Shelf.SlSortCmp.Insertion
import Derived.OpenShut
import Derived.WideKeyArgs
import Derived.Test.YtfgcmogbdcifeaaGreatDoorRows
import Derived.Lib.SmallJoins
import Derived.Shelf.SlSorted.Search
import Derived.Lib.ItoaLen
set_option maxRecDepth 10000
set_option maxHeartbeats 32000000
set_option linter.unusedSimpArgs false
set_option linter.unusedVariables false
namespace Go.Proofs.YtfgcmogbdcifeaaGreatDoor
section
open Go.RowKit
section
variable {w w':World} {g:Nat} {t:TypeId} {cs:Array Value}
end
end
section
open Go.RowKit
def uK:List Int:=(List.range 256).map fun i=>bif Nat.beq i 32||(Nat.ble 9 i&&Nat.ble i 13) then 1 else 0
structure Env (w:World):Prop where
 tab : Lib.TabIs Tryz.prog w "internal/strconv.uint64pow10" .u64 Lib.pow10Tab
 spc : Lib.TabIs Tryz.prog w "strings.asciiSpace" .u8 uK
 ml:∃m,w.cell? ⟨0,0,none⟩=some (.int .i64 m)
theorem Tryz.EP : Tryz.prog.globalNamed "strings.asciiSpace" = some 6 := by kernel_rfl
theorem Tryz.H7 : Tryz.prog.globalNamed "internal/strconv.uint64pow10" = some 3 := by kernel_rfl
theorem Ct {P:Program} {w:World} {name:String} {g:Nat} {cs:Array Value} (hg:P.globalNamed name=some g) (h:w.var? P name=some cs):g<w.heap.size:=by
 apply Classical.byContradiction;intro hn;unfold World.var? at h;rw[hg]at h;simp only[Option.bind_some]at h;rw[Array.getElem?_eq_none (Nat.le_of_not_lt hn)]at h;cases h
theorem ER {w:World} {g:Nat} {v:Value} (h:w.cell? ⟨g,0,none⟩=some v):g<w.heap.size:=by
 apply Classical.byContradiction;intro hn;unfold World.cell? at h;rw[Array.getElem?_eq_none (Nat.le_of_not_lt hn)]at h;cases h
theorem Env.below {w w':World} (h:Env w) (hb:Below w.heap.size w w'):Env w':=by
 obtain⟨h1,h2,⟨m,h4⟩⟩:=h;exact⟨var?_below hb Tryz.H7 (Ct Tryz.H7 h1) h1,var?_below hb Tryz.EP (Ct Tryz.EP h2) h2,⟨m,(hb.cell (ER h4)).trans h4⟩⟩
namespace Pur
noncomputable def ctx:Ctx:=⟨Tryz.prog,Env,fun _ _ h hb=>h.below hb,by kernel_rfl,[]⟩
def canon:Nat→PV→PV
 |0,p=>p
 |d+1,p=>match p with
  | .nilsl=>.sl 0 []
  | .agg l=>.agg (l.map (canon d))
  | .tup l=>.tup (l.map (canon d))
  | .sl n l=>.sl n (l.map (canon d))
  |p=>p
theorem ma {w:World} {S:Nat→Prop}:∀(d:Nat) {p:PV} {v:Value},Is w S p v→Is w S (canon d p) v
 |0,_,_,h=>h
 |d+1,p,v,h=>by
  cases h with
  |int k n=>exact .int k n
  |bool b=>exact .bool b
  |str s=>exact .str s
  |agg l cs hl hat =>
   refine .agg _ cs (by simpa using hl) fun i q u h1 h2=>?_
   rw[List.getElem?_map]at h1;obtain⟨r,hr,rfl⟩:=Option.map_eq_some_iff.mp h1;exact ma d (hat i r u hr h2)
  |tup l cs hl hat =>
   refine .tup _ cs (by simpa using hl) fun i q u h1 h2=>?_
   rw[List.getElem?_map]at h1;obtain⟨r,hr,rfl⟩:=Option.map_eq_some_iff.mp h1;exact ma d (hat i r u hr h2)
  |nilsl=>exact .sl0
  |sl n l g o cap c hS h1 h2 hc h3 hi =>
   refine .sl n _ g o cap c hS h1 h2 (fun i q hq=>?_) (fun i q hq=>?_) fun i q hq=>?_
   all_goals
    rw[List.getElem?_map]at hq;obtain⟨r,hr,rfl⟩:=Option.map_eq_some_iff.mp hq
   ·exact hc i r hr
   ·exact h3 i r hr
   exact ma d (hi i r hr)
  |sl0=>exact .sl0
  |slz a cap h=>exact .slz a cap h
  |val v=>exact .val v
  |iface t p=>exact .iface t p
  |mp l r es clock a b c d=>exact .mp l r es clock a b c d
theorem ah.yj {C:Ctx} {f:FuncId} {ps:List PV} {r:PV} (d:Nat) (h:ah C f (ps.map (canon d)) r):ah C f ps r :=
 ⟨h.1,fun w S vs hE hS hp=>h.2 w S vs hE hS ⟨by rw[List.length_map];exact hp.len,fun i p v h1 h2=>by
  rw[List.getElem?_map]at h1;obtain⟨q,hq,rfl⟩:=Option.map_eq_some_iff.mp h1;exact ma d (hp.at_ i q v hq h2)⟩⟩
theorem ah.AK {C:Ctx} {f:FuncId} {ps:List PV} {r:PV} (d:Nat) (h:ah C f ps r):ah C f ps (canon d r) :=
 ⟨h.1,fun w S vs hE hS hp=>(h.2 w S vs hE hS hp).mono fun e w' hh=>by
  obtain⟨v,h1,h2,h3⟩:=hh;exact⟨v,h1,h2,ma d h3⟩⟩
theorem ah.wI {f:FuncId} {ps:List PV} {r:PV} (hc:eU Tryz.prog f=true) (h:∀(w:World) (S:Nat→Prop) (vs:List Value),Env w→(∀g,S g→g<w.heap.size)→PW (Is w S) ps vs →
  Calls Tryz.prog f vs.toArray w fun e w'=>∃v,e= .returned v∧Below w.heap.size w w'∧(∀w' S',Is w' S' r v)):ah ctx f ps r :=
 ⟨hc,fun w S vs hE hS hp=>(h w S vs hE hS hp).mono fun e w' hh=>by
  obtain⟨v,h1,h2,h3⟩:=hh;exact⟨v,h1,h2,h3 _ _⟩⟩
theorem O5 {w:World} {S:Nat→Prop} {p:PV} {vs:List Value} (h:PW (Is w S) [p] vs):∃v,vs=[v]∧Is w S p v:=by
 match vs,h.len with
 |[v],_=>exact⟨v,rfl,h.at_ 0 p v rfl rfl⟩
theorem nk {w:World} {S:Nat→Prop} {l:List UInt8} {v:Value} (h:Is w S (.str l) v):v= .string ⟨l.toArray⟩:=by cases h;rfl
theorem rJ {w:World} {S:Nat→Prop} {k:IntKind} {n:Int} {v:Value} (h:Is w S (.int k n) v):v= .int k n:=by cases h;rfl
end Pur
end
section
open Go.RowKit
theorem mM {P:Program} {W:World} {name:String} {k:IntKind} {zs:List Int} {g:Nat} {t e:TypeId} {n:Nat}
  (hg:P.globalNamed name=some g) (hty:(P.globals[g]?).map (·.type)=some t) (ht:P.underlying t=some (.array n e)) (he:P.underlying e=some (.int k)) (hce:P.cellsOf e=1) (hct:P.cellsOf t=n) :
  ∀(laid:List (String×DataW Unit)) (ps:List MemPlace),DataW.LaidVars P W laid ps→(name,Lib.tabData k zs)∈laid→Lib.TabIs P W name k zs:=by
 intro laid;induction laid with
 |nil=>intro ps _ hm;cases hm
 |cons x rest ih =>
  intro ps h hm;obtain⟨nm,d⟩:=x;obtain⟨g',t',cs,fuel,p,q,hg',ht',hvar,hd,hrest,_⟩:=h;rcases List.mem_cons.1 hm with hm|hm
  ·obtain⟨rfl,rfl⟩:=Prod.mk.inj hm;obtain rfl:=Option.some.inj (hg.symm.trans hg');obtain rfl:=Option.some.inj (hty.symm.trans ht');unfold Lib.TabIs;rw[hvar,←Lib.cells_of_tab ht he hce hct hd]
  exact ih q hrest hm
end
section
open Go.RowKit Go.WideShapes Go.ChangeShapes
theorem rK {H:Type} {enc:TypeId×Value→H} {P:Program} {f:Func} {s:ChangeSpec} {apart fresh handsOn again:Bool} {W W':World} {args:Array Value} {v:Value} {ds gs:List (DataW H)}
  {before pa pv:List MemPlace} (hW:DataW.Whole enc P f.params.toList s.vars apart W args.toList ds gs before)
  (hres:∀(b:Nat) (sp:Nat→Bool) (hd:Bool),DataW.TrodAll enc P W' b sp hd f.resultTypes.toList (v.resultList f.resultTypes.size) (s.fn H (ds++gs)).results [])
  (hargs:∀sp:Nat→Bool,(∀p∈before,sp p.block=true)→DataW.TrodAll enc P W' 0 sp true f.params.toList args.toList (s.fn H (ds++gs)).args pa)
  (hvars:∀sp:Nat→Bool,(∀p∈before,sp p.block=true)→DataW.TrodVars enc P W' sp s.vars (s.fn H (ds++gs)).vars pv)
  (hps:before=pa++pv) (hb:Below W.heap.size W W')
  (hok:∀(j:Nat) (t:TypeId) (r:Value),f.resultTypes[j]?=some t→(v.resultList f.resultTypes.size)[j]?=some r→Value.okWide P W' .any 0 t r) :
  s.post enc P f apart fresh handsOn again W args v W':=by
 have hblk:∀x∈before,x.block<W.heap.size:=fun x hx=>hW.lt x hx
 have hsp:∀x∈before,decide (x.block<W.heap.size)=true:=fun x hx=>decide_eq_true (hblk x hx)
 have hall:∀x∈before,(fun _:Nat=>true) x.block=true:=fun _ _=>rfl
 have hframe:W.keptBut W' fun x=>x∈before∧x∈([]++pa)++pv∨False:=by
  refine World.keptBut_mono (fun x hx=>?_) (hb.frame (·∈before));exact .inl ⟨hx,by rw[List.nil_append,←hps];exact hx⟩
 refine⟨ds,gs,before,[],pa,pv,hW,hres _ _ _,hargs (fun b=>decide (b<W.heap.size)) hsp,hvars (fun b=>decide (b<W.heap.size)) hsp,World.keptBut_mono (fun x hx=>?_) hframe,fun _=>?_⟩
 ·rcases hx with⟨h1,h2⟩|h
  ·refine⟨h1,?_⟩;rw[List.nil_append,←hps]at h2;rw[hps,List.mem_append]at h1;exact Or.inr h1
  exact h.elim
 obtain⟨_,_,_,_,_,hfz,hnd⟩:=hW;have hpl:before=([]++pa)++pv:=by rw[List.nil_append];exact hps
 refine⟨hok,_,_,([]++pa)++pv,⟨[]++pa,pv,trodAll_append (hargs _ hall) (hres _ _ _),hvars _ hall,rfl,fun b off hp=>?_,fun ha=>?_⟩,fun x hx _=>?_⟩
 ·rw[←hpl]at hp;rw[hb.frozen (p:=⟨b,off,none⟩) (hblk _ hp)];exact hfz b off hp
 ·rw[←hpl];exact hnd ha
 rw[hpl];exact hx
end
section
namespace Tr
structure Nd where
 k:Int
 i:Int
 e:Int
 a:Int
 deriving DecidableEq
structure Oc where
 ser:Int
 kind:Int
 num:Int
 rk:Int
 ri:Int
 needs:List Nd
 deriving DecidableEq
structure Ev where
 rep:Int
 num:Int
 time:Int
 past:List Int
 kind:Int
 act:Int
 give:Nd
 tgt:Int
 place:Int
 ser:Int
 deriving DecidableEq
structure Qu where
 k:Int
 c:Int
 deriving DecidableEq
structure En where
 tick:Int
 kind:Int
 rep:Int
 ses:Int
 act:Int
 ser:Int
 out:Oc
 ev:Ev
 qs:List Qu
 vals:List (List Int)
 clk:List Int
 deriving DecidableEq
structure Hi where
 reps:Int
 ticks:Int
 state:List Int
 l:List En
def zn:Nd:=⟨0,0,0,0⟩
def zo:Oc:=⟨0,0,0,0,0,[]⟩
def ze:Ev:=⟨0,0,0,[],0,0,zn,0,0,0⟩
def zq:Qu:=⟨0,0⟩
def zx:En:=⟨0,0,0,0,0,0,zo,ze,[],[],[]⟩
def an (l:List Int):List Int:=(l.length:Int)::l
def bu (n:Nd):List Int:=[n.k,n.i,n.e,n.a]
def bT (o:Oc):List Int:=[o.ser,o.kind,o.num,o.rk,o.ri,(o.needs.length:Int)]++o.needs.flatMap bu
def eQ (e:Ev):List Int:=[e.rep,e.num,e.time]++an e.past++([e.kind,e.act]++bu e.give++[e.tgt,e.place,e.ser])
def pP (q:Qu):List Int:=[q.k,q.c]
def cx (l:List Qu):List Int:=(l.length:Int)::l.flatMap pP
def bA (l:List (List Int)):List Int:=(l.length:Int)::l.flatMap an
def bV (x:En):List Int:=[x.tick,x.kind,x.rep,x.ses,x.act,x.ser]++bT x.out++eQ x.ev++cx x.qs++bA x.vals++an x.clk
def bK (x:En):En :=
 if x.kind=0 then {zx with tick:=x.tick,kind:=x.kind,rep:=x.rep,ses:=x.ses,act:=x.act,ser:=x.ser}
 else if x.kind=1 then {zx with tick:=x.tick,kind:=x.kind,rep:=x.rep,out:=x.out}
 else if x.kind=2 then {zx with tick:=x.tick,kind:=x.kind,rep:=x.rep,ev:=x.ev}
 else if x.kind=3 then {zx with tick:=x.tick,kind:=x.kind,rep:=x.rep,ses:=x.ses,qs:=x.qs,vals:=x.vals,clk:=x.clk}
 else if x.kind=4 then {zx with tick:=x.tick,kind:=x.kind,rep:=x.rep,ses:=x.ses}
 else if x.kind=6 then {zx with tick:=x.tick,kind:=x.kind,rep:=x.rep,clk:=x.clk}
 else if x.kind=9 then {zx with tick:=x.tick,kind:=x.kind,rep:=x.rep,ses:=x.ses,act:=x.act}
 else {zx with tick:=x.tick,kind:=x.kind,rep:=x.rep}
def cf (x:En):List Int :=
 if x.kind=0 then [x.ses,x.act,x.ser]
 else if x.kind=1 then bT x.out
 else if x.kind=2 then eQ x.ev
 else if x.kind=3 then x.ses::(cx x.qs++bA x.vals++an x.clk)
 else if x.kind=4 then [x.ses]
 else if x.kind=6 then an x.clk
 else if x.kind=9 then [x.ses,x.act]
 else []
def bz (x:En):List Int:=[x.tick,x.rep]++cf x
def lD (n:Int):Bool:=decide (-4611686018427387904≤n)&&decide (n≤4611686018427387903)
def o8 (n:Int):Bool:=decide (0≤n)&&decide (n≤1024)
def eP (c:List Int):Bool:=c.all o8&&decide (1≤c.length)&&decide (c.length≤5)
def eR (n a b:Int):Bool:=decide (a≤n)&&decide (n≤b)
def jW (e:Ev):Bool :=
 if e.kind=0 then decide (e.give=zn)&&decide (e.tgt=0)&&eR e.act 0 255&&eR e.place 0 1024&&eR e.ser 1 1048576
 else if e.kind=1 then decide (e.act=0)&&decide (e.place=0)&&decide (e.ser=0)&&eR e.give.k 0 1&&eR e.give.e 0 (if e.give.k=1 then 5 else 0)&&eR e.give.i 0 1023&&eR e.give.a 1 1000000&&eR e.tgt 0 ((e.past.length:Int)-1)&&decide (e.tgt≠e.rep)
 else if e.kind=2 then decide (e.give=zn)&&decide (e.tgt=0)&&decide (e.act=0)&&eR e.place 1 1024&&eR e.ser 1 1048576
 else false
def fS (e:Ev):Bool:=eP e.past&&eR e.rep 0 ((e.past.length:Int)-1)&&decide (e.num=e.past.getD e.rep.toNat 0+1)&&decide (e.num≤1024)&&eR e.time 1 1073741824&&jW e
def jX (reps:Int) (x:En):Bool :=
 if x.kind=2 then fS x.ev&&decide ((x.ev.past.length:Int)=reps)
 else if x.kind=3 then eP x.clk&&decide ((x.clk.length:Int)=reps)&&decide (x.vals.length=x.qs.length)
 else if x.kind=6 then eP x.clk&&decide ((x.clk.length:Int)=reps)
 else true
def dF (reps ticks:Int) (x:En):Bool:=decide (0≤x.tick)&&decide (x.tick<ticks)&&decide (0≤x.rep)&&decide (x.rep<reps)&&decide (0≤x.kind)&&decide (x.kind≤9)&&decide (x=bK x)&&(bz x).all lD&&jX reps x
def fT (h:Hi) (i:Nat):Bool:=dF h.reps h.ticks (h.l.getD i zx)&&(decide (i=0)||decide ((h.l.getD (i-1) zx).tick≤(h.l.getD i zx).tick))
def pB (h:Hi):Bool:=decide (1≤h.reps)&&decide (h.reps≤5)&&decide (0≤h.ticks)&&decide (h.ticks≤1048576)&&decide (h.state.length≤128)&&h.state.all lD
def bS (h:Hi):Bool:=pB h&&decide (h.l.length≤4096)&&(List.range h.l.length).all (fT h)
def Cu (h:Hi):Bool:=h.l.all fun x=>decide ((bV x).length≤200)
def kU (h:Hi) (most:Int):Bool:=Cu h&&decide ((h.l.length:Int)≤most)&&decide (h.state.length≤130)
def td (l:List En) (i:Nat):Nat→Option Nat
 |0=>none
 |k+1=>if (l.getD k zx).kind=0∧(l.getD k zx).rep=(l.getD i zx).rep∧(l.getD k zx).ser=(l.getD i zx).out.ser then some k else td l i k
structure Fi where
 submitted:Int
 executed:Int
 refused:Int
 waited:Int
 opn:Int
 events:Int
 deliveries:Int
 reads:Int
 waits:Int
 busy:Int
 crashes:Int
 restarts:Int
 full:Int
 ticks:Int
 longest:Int
 deriving DecidableEq
def zf:Fi:=⟨0,0,0,0,0,0,0,0,0,0,0,0,0,0,0⟩
theorem ES {a b r s:List Int} (hl:a.length=b.length) (h:a++r=b++s):a=b∧r=s:=List.append_inj h hl
theorem ot {α:Type} {f:α→List Int} (hf:∀x y r s,f x++r=f y++s→x=y∧r=s):∀{l m:List α} {r s:List Int},l.length=m.length→l.flatMap f++r=m.flatMap f++s→l=m∧r=s
 |[],[],_,_,_,h=>⟨rfl,by simpa using h⟩
 |x::l,y::m,r,s,hl,h=>by
  rw[List.flatMap_cons,List.flatMap_cons,List.append_assoc,List.append_assoc]at h;obtain⟨h1,h2⟩:=hf _ _ _ _ h;obtain⟨h3,h4⟩:=ot hf (by simpa using hl) h2;exact⟨by rw[h1,h3],h4⟩
theorem o9 {a b r s:List Int} (h:an a++r=an b++s):a=b∧r=s:=by
 simp only[an,List.cons_append,List.cons.injEq]at h;exact ES (by omega) h.2
theorem AL {a b:Nd} {r s:List Int} (h:bu a++r=bu b++s):a=b∧r=s:=by
 obtain⟨a1,a2,a3,a4⟩:=a;obtain⟨b1,b2,b3,b4⟩:=b;simp only[bu,List.cons_append,List.cons.injEq,List.nil_append]at h;obtain⟨rfl,rfl,rfl,rfl,h⟩:=h;exact⟨rfl,h⟩
theorem ET {a b:Qu} {r s:List Int} (h:pP a++r=pP b++s):a=b∧r=s:=by
 obtain⟨a1,a2⟩:=a;obtain⟨b1,b2⟩:=b;simp only[pP,List.cons_append,List.cons.injEq,List.nil_append]at h;obtain⟨rfl,rfl,h⟩:=h;exact⟨rfl,h⟩
theorem Cv {a b:Oc} {r s:List Int} (h:bT a++r=bT b++s):a=b∧r=s:=by
 obtain⟨a1,a2,a3,a4,a5,al⟩:=a;obtain⟨b1,b2,b3,b4,b5,bl⟩:=b;simp only[bT,List.cons_append,List.cons.injEq,List.nil_append]at h;obtain⟨rfl,rfl,rfl,rfl,rfl,h6,h⟩:=h;obtain⟨rfl,h'⟩:=ot (fun _ _ _ _=>AL) (by omega) h;exact⟨rfl,h'⟩
theorem EU {a b:Ev} {r s:List Int} (h:eQ a++r=eQ b++s):a=b∧r=s:=by
 obtain⟨a1,a2,a3,al,a5,a6,⟨g1,g2,g3,g4⟩,a7,a8,a9⟩:=a;obtain⟨b1,b2,b3,bl,b5,b6,⟨i1,i2,i3,i4⟩,b7,b8,b9⟩:=b;simp only[eQ,List.cons_append,List.append_assoc,List.cons.injEq,List.nil_append]at h;obtain⟨rfl,rfl,rfl,h⟩:=h;obtain⟨rfl,h1⟩:=o9 h;simp only[bu,List.cons_append,List.cons.injEq,List.nil_append]at h1;obtain⟨rfl,rfl,rfl,rfl,rfl,rfl,rfl,rfl,rfl,h1⟩:=h1;exact⟨rfl,h1⟩
theorem Cw {a b:List Qu} {r s:List Int} (h:cx a++r=cx b++s):a=b∧r=s:=by
 simp only[cx,List.cons_append,List.cons.injEq]at h;exact ot (fun _ _ _ _=>ET) (by omega) h.2
theorem AN {a b:List (List Int)} {r s:List Int} (h:bA a++r=bA b++s):a=b∧r=s:=by
 simp only[bA,List.cons_append,List.cons.injEq]at h;exact ot (fun _ _ _ _=>o9) (by omega) h.2
theorem rL {a b:En} (h:bV a=bV b):a=b:=by
 obtain⟨a1,a2,a3,a4,a5,a6,ao,ae,aq,av,ac⟩:=a;obtain⟨b1,b2,b3,b4,b5,b6,bo,be,bq,bv,bc⟩:=b;simp only[bV,List.cons_append,List.append_assoc,List.cons.injEq,List.nil_append]at h;obtain⟨rfl,rfl,rfl,rfl,rfl,rfl,h⟩:=h;obtain⟨rfl,h1⟩:=Cv h;obtain⟨rfl,h2⟩:=EU h1;obtain⟨rfl,h3⟩:=Cw h2;obtain⟨rfl,h4⟩:=AN h3;obtain⟨rfl,h5⟩:=o9 (r:=[]) (s:=[]) (by simpa using h4);rfl
theorem Cx {x:En} (h:x=bK x) (hk:x.kind<4611686018427387904∧ -4611686018427387904≤x.kind):(bV x).all lD=(bz x).all lD:=by
 have hk':lD x.kind=true:=by simp only[lD,Bool.and_eq_true,decide_eq_true_eq];omega
 have h0:lD 0=true:=rfl;have h1:lD 1=true:=rfl;obtain⟨tick,kind,rep,ses,act,ser,out,ev,qs,vals,clk⟩:=x;simp only at hk hk';unfold bK at h;simp only at h;unfold bz cf;simp only;split at h
 ·rename_i hh;simp only[zx,En.mk.injEq]at h;obtain⟨-,-,-,-,-,-,rfl,rfl,rfl,rfl,rfl⟩:=h;simp[bV,bT,eQ,cx,bA,an,bu,zo,ze,zn,hh,h0]
 rename_i n0;split at h
 ·rename_i hh;simp only[zx,En.mk.injEq]at h;obtain⟨-,-,-,rfl,rfl,rfl,-,rfl,rfl,rfl,rfl⟩:=h;simp[bV,eQ,cx,bA,an,bu,zo,ze,zn,hh,h0,h1]
 rename_i n1;split at h
 ·rename_i hh;simp only[zx,En.mk.injEq]at h;obtain⟨-,-,-,rfl,rfl,rfl,rfl,-,rfl,rfl,rfl⟩:=h;simp[bV,bT,cx,bA,an,bu,zo,ze,zn,hh,h0,show lD 2=true from rfl]
 rename_i n2;split at h
 ·rename_i hh;simp only[zx,En.mk.injEq]at h;obtain⟨-,-,-,-,rfl,rfl,rfl,rfl,-,-,-⟩:=h;simp[bV,bT,eQ,an,bu,zo,ze,zn,hh,h0,show lD 3=true from rfl]
 rename_i n3;split at h
 ·rename_i hh;simp only[zx,En.mk.injEq]at h;obtain⟨-,-,-,-,rfl,rfl,rfl,rfl,rfl,rfl,rfl⟩:=h;simp[bV,bT,eQ,cx,bA,an,bu,zo,ze,zn,hh,h0,show lD 4=true from rfl]
 rename_i n4;split at h
 ·rename_i hh;simp only[zx,En.mk.injEq]at h;obtain⟨-,-,-,rfl,rfl,rfl,rfl,rfl,rfl,rfl,-⟩:=h;simp[bV,bT,eQ,cx,bA,an,bu,zo,ze,zn,hh,h0,show lD 6=true from rfl]
 rename_i n6;split at h
 ·rename_i hh;simp only[zx,En.mk.injEq]at h;obtain⟨-,-,-,-,-,rfl,rfl,rfl,rfl,rfl,rfl⟩:=h;simp[bV,bT,eQ,cx,bA,an,bu,zo,ze,zn,hh,h0,show lD 9=true from rfl]
 rename_i n9;simp only[zx,En.mk.injEq]at h;obtain⟨-,-,-,rfl,rfl,rfl,rfl,rfl,rfl,rfl,rfl⟩:=h;simp[bV,bT,eQ,cx,bA,an,bu,zo,ze,zn,n0,n1,n2,n3,n4,n6,n9,h0,hk']
end Tr
namespace Pur
open Tr
def aa (l:List Int):PV:=.sl l.length (l.map (.int .i64))
def cX (n:Nd):List PV:=[.int .i64 n.k,.int .i64 n.i,.int .i64 n.e,.int .i64 n.a]
def aG (l:List Nd):PV:=.sl l.length (l.flatMap cX)
def br (o:Oc):List PV:=[.int .i64 o.ser,.int .i64 o.kind,.int .i64 o.num,.int .i64 o.rk,.int .i64 o.ri,aG o.needs]
def ar (e:Ev):List PV:=[.int .i64 e.rep,.int .i64 e.num,.int .i64 e.time,aa e.past,.int .i64 e.kind,.int .i64 e.act,.int .i64 e.give.k,.int .i64 e.give.i,.int .i64 e.give.e,.int .i64 e.give.a,.int .i64 e.tgt,.int .i64 e.place,.int .i64 e.ser]
def ei (q:Qu):List PV:=[.int .i64 q.k,.int .i64 q.c]
def aC (l:List Qu):PV:=.sl l.length (l.flatMap ei)
def ai (l:List (List Int)):PV:=.sl l.length (l.map aa)
def aJ (x:En):List PV:=[.int .i64 x.tick,.int .i64 x.kind,.int .i64 x.rep,.int .i64 x.ses,.int .i64 x.act,.int .i64 x.ser]++br x.out++ar x.ev++[aC x.qs,ai x.vals,aa x.clk]
def bU (x:En):PV:=.agg (aJ x)
def bp (l:List En):PV:=.sl l.length (l.flatMap aJ)
def gy (h:Hi):List PV:=[.int .i64 h.reps,.int .i64 h.ticks,aa h.state,bp h.l]
def eA (h:Hi):PV:=.agg (gy h)
theorem iv (x:Nd):(cX x).length=4:=rfl
theorem gG (x:Qu):(ei x).length=2:=rfl
theorem aR (x:En):(aJ x).length=28:=rfl
theorem bW {α:Type} {g:α→List PV} {m:Nat} (hg:∀x,(g x).length=m):∀(l:List α),(l.flatMap g).length=l.length*m
 |[]=>by simp
 |x::r=>by rw[List.flatMap_cons,List.length_append,hg,bW hg r,List.length_cons,Nat.succ_mul,Nat.add_comm]
theorem db {α:Type} {g:α→List PV} {m:Nat} (hg:∀x,(g x).length=m):∀(l:List α) (k:Nat) (d:α) (j:Nat),k<l.length→j<m→(l.flatMap g)[k*m+j]?=(g (l.getD k d))[j]?
 |[],k,_,_,h,_=>by simp at h
 |x::r,0,d,j,_,hj=>by
  rw[List.flatMap_cons,List.getElem?_append_left (by rw[hg];omega)];simp
 |x::r,k+1,d,j,h,hj=>by
  rw[List.flatMap_cons,List.getElem?_append_right (by rw[hg,Nat.succ_mul];omega),hg,show(k+1)*m+j-m=k*m+j by rw[Nat.succ_mul];omega,db hg r k d j (by simpa using h) hj];simp
theorem dV {α:Type} {g:α→List PV} {m:Nat} (hg:∀x,(g x).length=m) (l:List α) (k:Nat) (d:α) (hk:k<l.length):((l.flatMap g).drop (k*m)).take m=g (l.getD k d):=by
 refine List.ext_getElem? fun j=>?_
 by_cases hj:j<m
 ·rw[List.getElem?_take,if_pos hj,List.getElem?_drop,db hg l k d j hk hj]
 rw[List.getElem?_take,if_neg hj,List.getElem?_eq_none (by rw[hg];omega)]
theorem bB {α:Type} (l:List α) (k:Nat) (d:α) (hk:k<l.length):l.take (k+1)=l.take k++[l.getD k d]:=by
 rw[List.take_add_one,List.getD,List.getElem?_eq_getElem hk];rfl
theorem bX {α:Type} {l:List α} {k:Nat} {d:α} (h:k<l.length):l.getD k d∈l:=by
 rw[List.getD,List.getElem?_eq_getElem h];exact List.getElem_mem h
theorem AO {α:Type} (l:List α) (k:Nat) (d:α) (hk:k<l.length):l.drop k=l.getD k d::l.drop (k+1):=by
 rw[List.drop_eq_getElem_cons hk,List.getD,List.getElem?_eq_getElem hk];rfl
theorem mb {α:Type} (p:α→Bool) (l:List α) (k:Nat) (d:α) (hk:k<l.length):(l.take (k+1)).all p=((l.take k).all p&&p (l.getD k d)):=by
 rw[bB l k d hk,List.all_append];simp
theorem uL {α:Type} (p:α→Bool) (l:List α) (k:Nat) (d:α) (hk:k<l.length) (h:p (l.getD k d)=false):l.all p=false:=by
 cases hb:l.all p with
 |false=>rfl
 |true=>rw[List.all_eq_true.mp hb _ (bX hk)]at h;cases h
end Pur
end
end Go.Proofs.YtfgcmogbdcifeaaGreatDoor
namespace Go.Proofs
open Go.Shelf
def Tryz.uM:Go.Shelf.Ren:=⟨fun|171=>45|243=>113|246=>216|283=>315|284=>316|285=>317|286=>318|129=>381|317=>380|318=>382|319=>383|320=>384|337=>416|338=>417|n=>n,fun|3=>3|9=>9|2=>2|4=>4|171=>326|0=>0|53=>327|37=>109|5=>5|173=>330|212=>369|51=>365|20=>20|213=>370|46=>321|232=>428|233=>429|n=>n,fun|17=>3|18=>4|19=>5|n=>n⟩
theorem Tryz.Cy:Go.Proofs.LaysM.n171 Tryz.prog Tryz.uM:={
 mixed:=by kernel_rfl
 f129:=Tryz.func381.trans (congrArg some (by kernel_rfl))
 f171:=Tryz.func45.trans (congrArg some (by kernel_rfl))
 f243:=Tryz.func113.trans (congrArg some (by kernel_rfl))
 f246:=Tryz.func216.trans (congrArg some (by kernel_rfl))
 f283:=Tryz.func315.trans (congrArg some (by kernel_rfl))
 f284:=Tryz.func316.trans (congrArg some (by kernel_rfl))
 f285:=Tryz.func317.trans (congrArg some (by kernel_rfl))
 f286:=Tryz.func318.trans (congrArg some (by kernel_rfl))
 f317:=Tryz.func380.trans (congrArg some (by kernel_rfl))
 f318:=Tryz.func382.trans (congrArg some (by kernel_rfl))
 f319:=Tryz.func383.trans (congrArg some (by kernel_rfl))
 f320:=Tryz.func384.trans (congrArg some (by kernel_rfl))
 f337:=Tryz.func416.trans (congrArg some (by kernel_rfl))
 f338:=Tryz.func417.trans (congrArg some (by kernel_rfl))
 t0:=Tryz.underlying0
 a0:=Tryz.isAgg0
 z0:=Tryz.sizeOf0
 v0:=Tryz.zeroValue0
 t2:=Tryz.underlying2
 a2:=Tryz.isAgg2
 z2:=Tryz.sizeOf2
 v2:=Tryz.zeroValue2
 t3:=Tryz.underlying3
 a3:=Tryz.isAgg3
 z3:=Tryz.sizeOf3
 v3:=Tryz.zeroValue3
 t4:=Tryz.underlying4
 a4:=Tryz.isAgg4
 z4:=Tryz.sizeOf4
 v4:=Tryz.zeroValue4
 t5:=Tryz.underlying5
 a5:=Tryz.isAgg5
 z5:=Tryz.sizeOf5
 v5:=Tryz.zeroValue5
 t9:=Tryz.underlying9
 a9:=Tryz.isAgg9
 z9:=Tryz.sizeOf9
 v9:=Tryz.zeroValue9
 t20:=Tryz.underlying20
 a20:=Tryz.isAgg20
 z20:=Tryz.sizeOf20
 v20:=Tryz.zeroValue20
 t37:=Tryz.underlying109
 a37:=Tryz.isAgg109
 z37:=Tryz.sizeOf109
 v37:=Tryz.zeroValue109
 t46:=Tryz.underlying321
 a46:=Tryz.isAgg321
 z46:=Tryz.sizeOf321
 v46:=Tryz.zeroValue321
 t51:=Tryz.underlying365
 a51:=Tryz.isAgg365
 z51:=Tryz.sizeOf365
 v51:=Tryz.zeroValue365
 t53:=Tryz.underlying327
 a53:=Tryz.isAgg327
 z53:=Tryz.sizeOf327
 v53:=Tryz.zeroValue327
 t171:=Tryz.underlying326
 a171:=Tryz.isAgg326
 z171:=Tryz.sizeOf326
 v171:=Tryz.zeroValue326
 t173:=Tryz.underlying330
 a173:=Tryz.isAgg330
 z173:=Tryz.sizeOf330
 v173:=Tryz.zeroValue330
 t212:=Tryz.underlying369
 a212:=Tryz.isAgg369
 z212:=Tryz.sizeOf369
 v212:=Tryz.zeroValue369
 t213:=Tryz.underlying370
 a213:=Tryz.isAgg370
 z213:=Tryz.sizeOf370
 t232:=Tryz.underlying428
 a232:=Tryz.isAgg428
 z232:=Tryz.sizeOf428
 v232:=Tryz.zeroValue428
 t233:=Tryz.underlying429
 a233:=Tryz.isAgg429
 z233:=Tryz.sizeOf429
 v233:=Tryz.zeroValue429
 g17:=by kernel_rfl
 g18:=by kernel_rfl
 g19:=by kernel_rfl
 i0:=by kernel_rfl
 i2:=by kernel_rfl
 i3:=by kernel_rfl
 i4:=by kernel_rfl
 i5:=by kernel_rfl
 i9:=by kernel_rfl
 i20:=by kernel_rfl
 i37:=by kernel_rfl
 i46:=by kernel_rfl
 i51:=by kernel_rfl
 i53:=by kernel_rfl
 i171:=by kernel_rfl
 i173:=by kernel_rfl
 i212:=by kernel_rfl
 i232:=by kernel_rfl
 i233:=by kernel_rfl
 m17:=by kernel_rfl
 m18:=by kernel_rfl
 m19:=by kernel_rfl}
open Go.RowKit Go.Sort Go.Lib in
theorem Tryz.strconv_Itoa (n : Int) (h0 : -9223372036854775808 ≤ n) (h1 : n ≤ 9223372036854775807) (w : World) (htab : Lib.TabIs Tryz.prog w "internal/strconv.uint64pow10" .u64 Lib.pow10Tab) :
  Calls Tryz.prog 45 #[.int .i64 n] w fun e w'=>e= .returned (.string ⟨(Lib.itoa n).toArray⟩)∧∃k os,w'=grow (w.drewN k) os:=Any.strconv_Itoa Tryz.Cy n h0 h1 w htab
def Tryz.pC:Go.Shelf.Ren:=⟨fun|154=>44|138=>107|165=>108|143=>109|166=>110|197=>111|169=>112|195=>210|218=>211|240=>212|241=>213|219=>214|260=>215|276=>309|277=>310|217=>311|225=>312|224=>313|267=>314|266=>378|314=>379|n=>n,fun|9=>9|3=>3|4=>4|72=>175|0=>0|76=>179|105=>181|21=>21|5=>5|70=>173|20=>20|37=>109|75=>178|127=>251|164=>318|46=>321|119=>322|139=>325|138=>324|146=>366|51=>365|80=>147|n=>n,fun|1=>0|3=>1|4=>2|n=>n⟩
theorem Tryz.EV:Go.Proofs.Lays.n154 Tryz.prog Tryz.pC:={
 mixed:=by kernel_rfl
 f138:=Tryz.func107.trans (congrArg some (by kernel_rfl))
 f143:=Tryz.func109.trans (congrArg some (by kernel_rfl))
 f154:=Tryz.func44.trans (congrArg some (by kernel_rfl))
 f165:=Tryz.func108.trans (congrArg some (by kernel_rfl))
 f166:=Tryz.func110.trans (congrArg some (by kernel_rfl))
 f169:=Tryz.func112.trans (congrArg some (by kernel_rfl))
 f195:=Tryz.func210.trans (congrArg some (by kernel_rfl))
 f197:=Tryz.func111.trans (congrArg some (by kernel_rfl))
 f217:=Tryz.func311.trans (congrArg some (by kernel_rfl))
 f218:=Tryz.func211.trans (congrArg some (by kernel_rfl))
 f219:=Tryz.func214.trans (congrArg some (by kernel_rfl))
 f224:=Tryz.func313.trans (congrArg some (by kernel_rfl))
 f225:=Tryz.func312.trans (congrArg some (by kernel_rfl))
 f240:=Tryz.func212.trans (congrArg some (by kernel_rfl))
 f241:=Tryz.func213.trans (congrArg some (by kernel_rfl))
 f260:=Tryz.func215.trans (congrArg some (by kernel_rfl))
 f266:=Tryz.func378.trans (congrArg some (by kernel_rfl))
 f267:=Tryz.func314.trans (congrArg some (by kernel_rfl))
 f276:=Tryz.func309.trans (congrArg some (by kernel_rfl))
 f277:=Tryz.func310.trans (congrArg some (by kernel_rfl))
 f314:=Tryz.func379.trans (congrArg some (by kernel_rfl))
 t0:=Tryz.underlying0
 a0:=Tryz.isAgg0
 z0:=Tryz.sizeOf0
 v0:=Tryz.zeroValue0
 t3:=Tryz.underlying3
 a3:=Tryz.isAgg3
 z3:=Tryz.sizeOf3
 v3:=Tryz.zeroValue3
 t4:=Tryz.underlying4
 a4:=Tryz.isAgg4
 z4:=Tryz.sizeOf4
 v4:=Tryz.zeroValue4
 t5:=Tryz.underlying5
 a5:=Tryz.isAgg5
 z5:=Tryz.sizeOf5
 v5:=Tryz.zeroValue5
 t9:=Tryz.underlying9
 a9:=Tryz.isAgg9
 z9:=Tryz.sizeOf9
 v9:=Tryz.zeroValue9
 t20:=Tryz.underlying20
 a20:=Tryz.isAgg20
 z20:=Tryz.sizeOf20
 v20:=Tryz.zeroValue20
 t21:=Tryz.underlying21
 a21:=Tryz.isAgg21
 z21:=Tryz.sizeOf21
 v21:=Tryz.zeroValue21
 t37:=Tryz.underlying109
 a37:=Tryz.isAgg109
 z37:=Tryz.sizeOf109
 v37:=Tryz.zeroValue109
 t46:=Tryz.underlying321
 a46:=Tryz.isAgg321
 z46:=Tryz.sizeOf321
 v46:=Tryz.zeroValue321
 t51:=Tryz.underlying365
 a51:=Tryz.isAgg365
 z51:=Tryz.sizeOf365
 v51:=Tryz.zeroValue365
 t70:=Tryz.underlying173
 a70:=Tryz.isAgg173
 z70:=Tryz.sizeOf173
 v70:=Tryz.zeroValue173
 t72:=Tryz.underlying175
 a72:=Tryz.isAgg175
 z72:=Tryz.sizeOf175
 v72:=Tryz.zeroValue175
 t75:=Tryz.underlying178
 a75:=Tryz.isAgg178
 z75:=Tryz.sizeOf178
 v75:=Tryz.zeroValue178
 t76:=Tryz.underlying179
 a76:=Tryz.isAgg179
 z76:=Tryz.sizeOf179
 v76:=Tryz.zeroValue179
 t105:=Tryz.underlying181
 a105:=Tryz.isAgg181
 z105:=Tryz.sizeOf181
 v105:=Tryz.zeroValue181
 t119:=Tryz.underlying322
 a119:=Tryz.isAgg322
 z119:=Tryz.sizeOf322
 t127:=Tryz.underlying251
 a127:=Tryz.isAgg251
 z127:=Tryz.sizeOf251
 v127:=Tryz.zeroValue251
 t138:=Tryz.underlying324
 a138:=Tryz.isAgg324
 z138:=Tryz.sizeOf324
 v138:=Tryz.zeroValue324
 t139:=Tryz.underlying325
 a139:=Tryz.isAgg325
 z139:=Tryz.sizeOf325
 v139:=Tryz.zeroValue325
 t146:=Tryz.underlying366
 a146:=Tryz.isAgg366
 z146:=Tryz.sizeOf366
 v146:=Tryz.zeroValue366
 t164:=Tryz.underlying318
 a164:=Tryz.isAgg318
 z164:=Tryz.sizeOf318
 v164:=Tryz.zeroValue318
 g1:=by kernel_rfl
 g3:=by kernel_rfl
 g4:=by kernel_rfl}
theorem Tryz.ou:Builder.Extra Tryz.prog Tryz.pC:={
 sizeBuilder:=by kernel_rfl
 liesBuilder:=by kernel_rfl
 t5:=Tryz.underlying5
 a5:=Tryz.isAgg5
 z5:=Tryz.sizeOf5
 v5:=Tryz.zeroValue5
 infoByte:=by kernel_rfl
 cellsByte:=by kernel_rfl
 sizeByte:=by kernel_rfl
 neB5:=by decide}
open Go.RowKit Go.Lib in
theorem Tryz.strings_Replace (s old new:ByteArray) (n:Int) (m:Int) (w:World) (hs:s.size<4294967281) (hm:w.cell? ⟨0,0,none⟩=some (.int .i64 m)) (h1:1≤old.size) (hlen:s.size+Lib.countB s old*new.size≤140737488355328) :
  Calls Tryz.prog 44 #[.string s,.string old,.string new,.int .i64 n] w fun e w' =>
   e= .returned (.string ⟨(Lib.replace s.data.toList old.data.toList new.data.toList n).toArray⟩)∧Below w.heap.size w w':=Any.strings_Replace Tryz.EV Tryz.ou s old new n m w hs hm h1 hlen
end Go.Proofs
namespace Go.Proofs.YtfgcmogbdcifeaaGreatDoor
section
namespace Pur
open Go.RowKit
section
open Go.RowKit Go.ChangeShapes Go.WideShapes Go.ChangeAt
def Typed (P:Program) (B:Nat):Nat→TypeId→List PV→Prop
 |0,_,_=>False
 |n+1,t,l=>match P.underlying t with
  |some .bool=>∃b,l=[.bool b]
  |some (.int k)=>∃x,l=[.int k x]∧(Lit.int k x).wf=true
  |some .string=>∃s,l=[.str s]∧s.length≤B
  |some (.slice e)=>∃m cs,l=[.sl m cs]∧m≤B∧cs.length=m*P.cellsOf e∧∀i,i<m→Typed P B n e ((cs.drop (i*P.cellsOf e)).take (P.cellsOf e))
  |some (.struct fs)=>l.length=P.cellsOf t∧∀(i:Nat) f,fs[i]?=some f→Typed P B n f.type ((l.drop f.offset).take (P.cellsOf f.type))
  |_=>False
def mc (P:Program):List Field→Nat→Nat→Bool
 |[],o,e=>Nat.beq o e
 |f::r,o,e=>Nat.beq f.offset o&&mc P r (o+P.cellsOf f.type) e
def wJ (P:Program) (L:List TypeId):Bool:=L.all fun t=>match P.underlying t with
 |some .bool=>true
 |some (.int _)=>true
 |some .string=>true
 |some (.slice e)=>L.contains e&&Nat.ble 1 (P.cellsOf e)
 |some (.struct fs)=>fs.toList.all (fun f=>L.contains f.type)&&mc P fs.toList 0 (P.cellsOf t)
 |_=>false
structure uN {H:Type} (B:Nat) (Sm:DataW H→Prop):Prop where
 slice:∀l m,Sm (.slice l m)→l.length≤maxLen→l.length≤B∧∀d∈l,Sm d
 agg:∀l,Sm (.agg l)→∀d∈l,Sm d
 str:∀l,Sm (.lit (.string l))→l.length≤maxLen→l.length≤B
theorem uN.any {H:Type}:uN maxLen (fun _:DataW H=>True):=⟨fun _ _ _ h=>⟨h,fun _ _=>trivial⟩,fun _ _ _ _=>trivial,fun _ _ h=>h⟩
section
variable {H:Type} {enc:TypeId×Value→H} {P:Program} {w:World} {B:Nat} {Sm:DataW H→Prop}
def nn (w:World) (g:Nat):Prop:=g<w.heap.size
theorem PW.app {α β:Type} {R:α→β→Prop} {l l':List α} {m m':List β} (h:PW R l m) (h':PW R l' m'):PW R (l++l') (m++m') :=
 ⟨by simp[h.len,h'.len],fun i a b ha hb=>by
  by_cases hi:i<l.length
  ·rw[List.getElem?_append_left hi]at ha;rw[List.getElem?_append_left (by rw[←h.len];exact hi)]at hb;exact h.at_ i a b ha hb
  rw[List.getElem?_append_right (by omega)]at ha;rw[List.getElem?_append_right (by rw[←h.len];omega),←h.len]at hb;exact h'.at_ _ a b ha hb⟩
theorem AP {g o:Nat} {v:Value} (h:w.cell? ⟨g,o,none⟩=some v):g<w.heap.size:=by
 apply Classical.byContradiction;intro hn;have:w.heap[g]?=none:=Array.getElem?_eq_none (by omega);simp[World.cell?,this]at h
theorem pieces {α:Type} (z:Nat) (Q:Nat→List α→Prop):∀(m:Nat),(∀i,i<m→∃l:List α,l.length=z∧Q i l)→∃l:List α,l.length=m*z∧∀i,i<m→Q i ((l.drop (i*z)).take z)
 |0,_=>⟨[],by simp,fun i hi=>absurd hi (Nat.not_lt_zero i)⟩
 |m+1,h=>by
  obtain⟨l,hl,hq⟩:=pieces z Q m fun i hi=>h i (by omega)
  obtain⟨x,hx,hxq⟩:=h m (by omega);refine⟨l++x,by rw[List.length_append,hl,hx,Nat.succ_mul],fun i hi=>?_⟩;have hle:∀i,i<m→i*z+z≤m*z:=fun i hi=>by
   have:=Nat.mul_le_mul_right z (show i+1≤m by omega);rwa [Nat.succ_mul]at this
  by_cases him:i<m
  ·have:=hle i him;rw[List.drop_append_of_le_length (by omega),List.take_append_of_le_length (by rw[List.length_drop];omega)];exact hq i him
  have:i=m:=by omega
  subst this;rw[←hl,List.drop_left,List.take_of_length_le (by omega)];exact hxq
theorem Cz {α:Type} {z m:Nat} {l:List α} (hl:l.length=m*z) {j:Nat} {x:α} (hx:l[j]?=some x):j / z<m∧((l.drop (j / z*z)).take z)[j % z]?=some x:=by
 have hj:j<m*z:=by rw[←hl];exact(List.getElem?_eq_some_iff.mp hx).1
 have hz:0<z:=by
  rcases Nat.eq_zero_or_pos z with h|h
  ·subst h;omega
  exact h
 refine⟨Nat.div_lt_of_lt_mul (by rw[Nat.mul_comm];exact hj),?_⟩;rw[List.getElem?_take,if_pos (Nat.mod_lt _ hz),List.getElem?_drop];have:j / z*z+j % z=j:=by rw[Nat.mul_comm];exact Nat.div_add_mod j z
 rw[this];exact hx
theorem pD {n:Nat} {cs:List Value} (ih:∀(t:TypeId) (cs:List Value),(∃x,DataW.trod enc P w 0 (fun _=>true) true n t cs=some x∧Sm x.1)→∀L:List TypeId,wJ P L=true→t∈L→∃l,Typed P B n t l∧PW (Is w (nn w)) l cs∧∀c∈cs,c.oneCell'=true) (L:List TypeId) (hL:wJ P L=true) :
  ∀(fs:List Field) (o e:Nat),mc P fs o e=true→(∀f∈fs,f.type∈L)→(∀f∈fs,∃x,DataW.trod enc P w 0 (fun _=>true) true n f.type ((cs.drop f.offset).take (P.cellsOf f.type))=some x∧Sm x.1)→(∀f∈fs,f.offset+P.cellsOf f.type≤cs.length) →
   o≤e∧∃l:List PV,PW (Is w (nn w)) l ((cs.drop o).take (e-o))∧(∀c∈(cs.drop o).take (e-o),c.oneCell'=true)∧∀f∈fs,o≤f.offset∧Typed P B n f.type ((l.drop (f.offset-o)).take (P.cellsOf f.type))
 |[],o,e,hc,_,_,_=>by
  simp only[mc]at hc;have:=Nat.eq_of_beq_eq_true hc;subst this;refine⟨Nat.le_refl _,[],?_,?_,fun f hf=>by cases hf⟩
  ·rw[Nat.sub_self,List.take_zero];exact⟨rfl,fun i a b h=>by simp at h⟩
  rw[Nat.sub_self,List.take_zero];intro c hc;cases hc
 |f::r,o,e,hc,ht,hx,hb=>by
  simp only[mc,Bool.and_eq_true]at hc;have ho:=Nat.eq_of_beq_eq_true hc.1;obtain⟨hle,l,h1,h2,h3⟩:=pD ih L hL r (o+P.cellsOf f.type) e hc.2 (fun g hg=>ht g (List.mem_cons_of_mem _ hg)) (fun g hg=>hx g (List.mem_cons_of_mem _ hg)) (fun g hg=>hb g (List.mem_cons_of_mem _ hg));obtain⟨x,hx0,hxs⟩:=hx f List.mem_cons_self;have hbf:=hb f List.mem_cons_self;rw[ho]at hx0 hbf;obtain⟨m,k1,k2,k3⟩:=ih f.type _ ⟨x,hx0,hxs⟩ L hL (ht f List.mem_cons_self);have hml:m.length=P.cellsOf f.type:=by rw[k2.len,List.length_take,List.length_drop];omega
  have hsplit:(cs.drop o).take (e-o)=(cs.drop o).take (P.cellsOf f.type)++(cs.drop (o+P.cellsOf f.type)).take (e-(o+P.cellsOf f.type)):=by
   rw[show e-o=P.cellsOf f.type+(e-(o+P.cellsOf f.type)) by omega,List.take_add,List.drop_drop]
  refine⟨by omega,m++l,?_,?_,fun g hg=>?_⟩
  ·rw[hsplit];exact k2.app h1
  ·rw[hsplit];intro c hc;rcases List.mem_append.mp hc with hc|hc
   ·exact k3 c hc
   exact h2 c hc
  cases hg with
  |head =>
   refine⟨by omega,?_⟩;rw[ho,Nat.sub_self,List.drop_zero,←hml,List.take_left];exact k1
  |tail _ hg =>
   obtain⟨g1,g2⟩:=h3 g hg;refine⟨by omega,?_⟩;rw[List.drop_append,hml,List.drop_eq_nil_of_le (by omega),List.nil_append,show g.offset-o-P.cellsOf f.type=g.offset-(o+P.cellsOf f.type) by omega];exact g2
theorem np (hM:uN B Sm):∀(n:Nat) (t:TypeId) (cs:List Value),(∃x,DataW.trod enc P w 0 (fun _=>true) true n t cs=some x∧Sm x.1)→∀L:List TypeId,wJ P L=true→t∈L →
  ∃l,Typed P B n t l∧PW (Is w (nn w)) l cs∧∀c∈cs,c.oneCell'=true
 |0,t,cs,⟨x,h,_⟩,_,_,_=>by simp[DataW.trod]at h
 |n+1,t,cs,⟨x,h,hsm⟩,L,hL,ht=>by
  have hsh:=List.all_eq_true.mp hL t ht;have one:∀{p:PV} {v:Value},Is w (nn w) p v→PW (Is w (nn w)) [p] [v]:=fun {p v} h=>⟨rfl,fun i a b ha hb=>by
   match i,ha,hb with
   |0,ha,hb=>simp at ha hb;subst ha hb;exact h⟩
  cases hu:P.underlying t with
  |none=>rw[hu]at hsh;cases hsh
  |some d =>
   rw[hu]at hsh;cases d with
   |bool =>
    obtain⟨b,rfl,-⟩:=DataW.trod_bool hu h;exact⟨[.bool b],by simp only[Typed,hu];exact⟨b,rfl⟩,one (.bool b),fun c hc=>by simp at hc;subst hc;rfl⟩
   |int k =>
    obtain⟨m,rfl,-,hw⟩:=DataW.trod_int hu h;exact⟨[.int k m],by simp only[Typed,hu];exact⟨m,rfl,hw⟩,one (.int k m),fun c hc=>by simp at hc;subst hc;rfl⟩
   |string =>
    obtain⟨s,rfl,rfl,hs⟩:=DataW.trod_string hu h;exact⟨[.str s.data.toList],by simp only[Typed,hu];exact⟨_,rfl,hM.str _ hsm (by rw[Array.length_toList];exact hs)⟩,one (BH w _ s),fun c hc=>by simp at hc;subst hc;rfl⟩
   |slice e =>
    simp only[Bool.and_eq_true]at hsh;have he:e∈L:=by simpa using hsh.1
    have hz:=Nat.le_of_ble_eq_true hsh.2;rcases DataW.trod_slice hu h with⟨rfl,-⟩|⟨a,len,cap,elems,rest,n',hn,rfl,rfl,-,hlc,hcm,hlen,hel,-,-⟩
    ·exact⟨[.sl 0 []],by simp only[Typed,hu];exact⟨0,[],rfl,Nat.zero_le _,(Nat.zero_mul _).symm,fun i hi=>absurd hi (Nat.not_lt_zero i)⟩,one .sl0,fun c hc=>by simp at hc;subst hc;rfl⟩
    injection hn with hn
    subst hn;obtain⟨hmB,hms⟩:=hM.slice _ _ hsm (by rw[List.length_map];omega);rw[List.length_map,hlen]at hmB;have each:∀i,i<len→∃cs,(w.cells? 0 (a.add (i*P.cellsOf e)) (P.cellsOf e))=some cs∧∃l,Typed P B n e l∧PW (Is w (nn w)) l cs∧∀c∈cs,c.oneCell'=true:=fun i hi=>by
     have h1:=hel i hi;have h2:∃y,elems[i]?=some y:=⟨elems[i]'(by omega),List.getElem?_eq_getElem (by omega)⟩
     obtain⟨y,hy⟩:=h2;rw[hy]at h1;obtain⟨cs,hc1,hc2⟩:=Option.bind_eq_some_iff.mp h1;exact⟨cs,hc1,np hM n e cs ⟨y,hc2,hms _ (List.mem_map_of_mem (List.mem_of_getElem? hy))⟩ L hL he⟩
    cases len with
    |zero=>exact⟨[.sl 0 []],by simp only[Typed,hu];exact⟨0,[],rfl,Nat.zero_le _,(Nat.zero_mul _).symm,fun i hi=>absurd hi (Nat.not_lt_zero i)⟩,one (.slz a cap hcm),fun c hc=>by simp at hc;subst hc;rfl⟩
    |succ len =>
     have hspot:a.spot=none:=by
      obtain⟨cs,hc,-⟩:=each 0 (by omega);obtain⟨-,hcl,hcell⟩:=World.cells?_some hc;have h0:=hcell 0 (by omega);rw[List.getElem?_eq_getElem (by omega)]at h0;have h1:=World.cell?_spot h0;obtain⟨b,o,sp⟩:=a;cases sp with
      |none=>rfl
      |some q=>simp[Addr.add]at h1
     obtain⟨b,o,sp⟩:=a;subst hspot;obtain⟨l,hl,hq⟩:=pieces (P.cellsOf e) (fun i l=>Typed P B n e l∧∀(j:Nat) p,l[j]?=some p→∃v,w.cell? ⟨b,o+(i*P.cellsOf e+j),none⟩=some v∧Is w (nn w) p v∧v.oneCell'=true) (len+1) fun i hi=>by
      obtain⟨cs,hc,l,k1,k2,k3⟩:=each i hi;obtain⟨-,hcl,hcell⟩:=World.cells?_some hc;refine⟨l,by rw[k2.len,hcl],k1,fun j p hp=>?_⟩;have hj:j<l.length:=(List.getElem?_eq_some_iff.mp hp).1;have hjc:j<cs.length:=by rw[←k2.len];exact hj
      have h0:=hcell j (by omega);rw[List.getElem?_eq_getElem hjc,show((⟨b,o,none⟩:Addr).add (i*P.cellsOf e)).add j=⟨b,o+(i*P.cellsOf e+j),none⟩ by rw[add_plain,add_plain,Nat.add_assoc]]at h0;exact⟨_,h0,k2.at_ j p _ hp (List.getElem?_eq_getElem hjc),k3 _ (List.getElem_mem hjc)⟩
     have key:∀(i:Nat) p,l[i]?=some p→∃v,w.cell? ⟨b,o+i,none⟩=some v∧Is w (nn w) p v∧v.oneCell'=true:=fun i p hp=>by
      obtain⟨g1,g2⟩:=Cz hl hp;obtain⟨v,h1,h2,h3⟩:=(hq _ g1).2 _ p g2;have:i / P.cellsOf e*P.cellsOf e+i % P.cellsOf e=i:=by rw[Nat.mul_comm];exact Nat.div_add_mod i _
      rw[this]at h1;exact⟨v,h1,h2,h3⟩
     have hb:nn w b:=by
      have:0<l.length:=by rw[hl];exact Nat.mul_pos (by omega) (by omega)
      obtain⟨v,h1,-⟩:=key 0 _ (List.getElem?_eq_getElem this);exact AP h1
     refine⟨[.sl (len+1) l],by simp only[Typed,hu];exact⟨_,_,rfl,hmB,hl,fun i hi=>(hq i hi).1⟩,one ?_,fun c hc=>by simp at hc;subst hc;rfl⟩;refine .sl (len+1) l b o cap (fun i=>(w.cell? ⟨b,o+i,none⟩).getD undef) hb hlc hcm (fun i p hp=>?_) (fun i p hp=>?_) fun i p hp=>?_
     ·obtain⟨v,h1,-,-⟩:=key i p hp;rw[h1];rfl
     ·obtain⟨v,h1,-,h3⟩:=key i p hp;rw[h1];exact h3
     obtain⟨v,h1,h2,-⟩:=key i p hp;rw[h1];exact h2
   |struct fs =>
    simp only[Bool.and_eq_true]at hsh;obtain⟨xs,n',hn,rfl,hcl,hxl,hat⟩:=DataW.trod_struct hu h;injection hn with hn
    subst hn;have hin:∀f∈fs.toList,f.type∈L:=fun f hf=>by simpa using List.all_eq_true.mp hsh.1 f hf
    have hx:∀f∈fs.toList,∃x,DataW.trod enc P w 0 (fun _=>true) true n f.type ((cs.drop f.offset).take (P.cellsOf f.type))=some x∧Sm x.1:=fun f hf=>by
     obtain⟨i,hi⟩:=List.mem_iff_getElem?.mp hf;have hfi:fs[i]?=some f:=by rw[←Array.getElem?_toList];exact hi
     have h1:=hat i f hfi;have hil:i<xs.length:=by rw[hxl];exact(Array.getElem?_eq_some_iff.mp hfi).1
     exact⟨xs[i],by rw[h1,List.getElem?_eq_getElem hil],hM.agg _ hsm _ (List.mem_map_of_mem (List.getElem_mem hil))⟩
    have bound:∀(fs:List Field) (o e:Nat),mc P fs o e=true→o≤e∧∀f∈fs,f.offset+P.cellsOf f.type≤e:=by
     intro fs;induction fs with
     |nil =>
      intro o e h;simp only[mc]at h;have:=Nat.eq_of_beq_eq_true h;exact⟨by omega,fun f hf=>by cases hf⟩
     |cons f r ih =>
      intro o e h;simp only[mc,Bool.and_eq_true]at h;have h1:=Nat.eq_of_beq_eq_true h.1;obtain⟨g1,g2⟩:=ih _ e h.2;refine⟨by omega,fun g hg=>?_⟩;cases hg with
      |head=>omega
      |tail _ hg=>exact g2 g hg
    obtain⟨-,l,k1,k2,k3⟩:=pD (fun t cs hx L hL ht=>np hM n t cs hx L hL ht) L hL fs.toList 0 (P.cellsOf t) hsh.2 hin hx (fun f hf=>by rw[hcl];exact(bound _ _ _ hsh.2).2 f hf);rw[List.drop_zero,Nat.sub_zero,List.take_of_length_le (by omega)]at k1 k2;refine⟨l,?_,k1,k2⟩;simp only[Typed,hu];refine⟨by rw[k1.len,hcl],fun i f hf=>?_⟩;have:=(k3 f (List.mem_iff_getElem?.mpr ⟨i,by rw[Array.getElem?_toList];exact hf⟩)).2;simpa using this
   |_=>cases hsh
def pb (P:Program) (B:Nat) (t:TypeId) (p:PV):Prop:=∃n l,Typed P B n t l∧(bif (match P.underlying t with|some (.struct _)=>true|_=>false) then p= .agg l else l=[p])
def ov (P:Program) (B:Nat):List TypeId→List PV→Prop
 |[],[]=>True
 |t::ts,p::ps=>pb P B t p∧ov P B ts ps
 |_,_=>False
theorem yk (hM:uN B Sm) {L:List TypeId} (hL:wJ P L=true) {t:TypeId} (ht:t∈L) {r:Reach} {b:Nat} {v:Value} {d:DataW H} {ps:List MemPlace} (hv:Value.okWide P w r b t v) (h:DataW.Trod enc P w 0 (fun _=>true) true t v d ps) (hs:Sm d) :
  ∃p,pb P B t p∧Is w (nn w) p v:=by
 obtain⟨n,h⟩:=h;obtain⟨l,h1,h2,-⟩:=np hM n t _ ⟨_,h,hs⟩ L hL ht;cases n with
 |zero=>exact h1.elim
 |succ n =>
 have hsh:=List.all_eq_true.mp hL t ht;unfold Value.okWide at hv;cases hu:P.underlying t with
 |none=>rw[hu]at hsh;cases hsh
 |some d =>
  rw[hu]at hsh hv;have leaf:(∀fs,d≠.struct fs)→(∃p,l=[p])→(∀cs,v≠.agg cs)→∃p,pb P B t p∧Is w (nn w) p v:=fun hd hp hc=>by
   obtain⟨p,rfl⟩:=hp;have hcells:v.cells=#[v]:=by
    cases v<;>first|rfl|exact absurd rfl (hc _)
   rw[hcells]at h2;refine⟨p,⟨n+1,[p],h1,?_⟩,h2.at_ 0 p v rfl rfl⟩;rw[hu];cases d<;>first|rfl|exact absurd rfl (hd _)
  cases d with
  |struct fs =>
   obtain⟨cs,rfl,-⟩:=hv;refine⟨.agg l,⟨n+1,l,h1,by rw[hu];rfl⟩,?_⟩;have:=Is.agg (w:=w) (S:=nn w) l cs.toList h2.len h2.at_;simpa using this
  |bool =>
   simp only[Typed,hu]at h1;obtain⟨x,rfl⟩:=h1;refine leaf (by simp) ⟨_,rfl⟩ fun cs hc=>?_
   subst hc;simp[Cell.okWide,hu,Cell.ok]at hv
  |int k =>
   simp only[Typed,hu]at h1;obtain⟨x,rfl,-⟩:=h1;refine leaf (by simp) ⟨_,rfl⟩ fun cs hc=>?_
   subst hc;simp[Cell.okWide,hu,Cell.ok]at hv
  |string =>
   simp only[Typed,hu]at h1;obtain⟨x,rfl,-⟩:=h1;refine leaf (by simp) ⟨_,rfl⟩ fun cs hc=>?_
   subst hc;simp[Cell.okWide,hu,Cell.ok]at hv
  |slice e =>
   simp only[Typed,hu]at h1;obtain⟨m,x,rfl,-⟩:=h1;refine leaf (by simp) ⟨_,rfl⟩ fun cs hc=>?_
   subst hc;simp[Cell.okWide,hu,Cell.ok]at hv
  |_=>cases hsh
theorem rM (hM:uN B Sm) {L:List TypeId} (hL:wJ P L=true) {r:Reach} {b:Nat}:∀(ts:List TypeId) (vs:List Value) (ds:List (DataW H)) (ps:List MemPlace),(∀t∈ts,t∈L)→(∀(j:Nat) t v,ts[j]?=some t→vs[j]?=some v→Value.okWide P w r b t v)→DataW.TrodAll enc P w 0 (fun _=>true) true ts vs ds ps→(∀d∈ds,Sm d) →
  ∃qs,ov P B ts qs∧PW (Is w (nn w)) qs vs
 |[],vs,ds,ps,_,_,h,_=>by
  obtain⟨rfl,rfl,rfl⟩:=trodAll_nil h;exact⟨[],trivial,rfl,fun i a b h=>by simp at h⟩
 |t::ts,vs,ds,ps,ht,hv,h,hs=>by
  obtain⟨v,vs',d,ds',p,q,rfl,rfl,rfl,h0,h1⟩:=trodAll_cons h;obtain⟨x,x1,x2⟩:=yk hM hL (ht t List.mem_cons_self) (hv 0 t v rfl rfl) h0 (hs d List.mem_cons_self);obtain⟨qs,y1,y2⟩:=rM hM hL ts vs' ds' q (fun t h=>ht t (List.mem_cons_of_mem _ h)) (fun j t v h1 h2=>hv (j+1) t v h1 h2) h1 (fun d h=>hs d (List.mem_cons_of_mem _ h));refine⟨x::qs,⟨x1,y1⟩,by simp[y2.len],fun i a b ha hb=>?_⟩;cases i with
  |zero=>simp at ha hb;subst ha hb;exact x2
  |succ i=>exact y2.at_ i a b (by simpa using ha) (by simpa using hb)
theorem rN (hl:laidOutB P=true) {w':World} {sp:Nat→Bool}:∀(ts:List TypeId) (vs:List Value) (ds:List (DataW H)) (ps:List MemPlace),(∀t∈ts,P.readableRec t=true∧t<P.types.size)→(∀p∈ps,w.sameAt w' p)→(∀p∈ps,sp p.block=true)→DataW.TrodAll enc P w 0 (fun _=>true) true ts vs ds ps →
  DataW.TrodAll enc P w' 0 sp true ts vs ds ps
 |[],vs,ds,ps,_,_,_,h=>by
  obtain⟨rfl,rfl,rfl⟩:=trodAll_nil h;exact trodAll_mk0
 |t::ts,vs,ds,ps,ht,hs,hsp,h=>by
  obtain⟨v,vs',d,ds',p,q,rfl,rfl,rfl,h0,h1⟩:=trodAll_cons h;exact⟨p,q,Go.WideElems.Trod_stays hl (ht t List.mem_cons_self).1 (ht t List.mem_cons_self).2 h0 (fun x hx=>hs x (List.mem_append_left _ hx)) (fun x hx=>hsp x (List.mem_append_left _ hx)),
   rN hl ts vs' ds' q (fun t h=>ht t (List.mem_cons_of_mem _ h)) (fun x hx=>hs x (List.mem_append_right _ hx)) (fun x hx=>hsp x (List.mem_append_right _ hx)) h1,rfl⟩
theorem rO {w':World} (hb:Below w.heap.size w w') {p:MemPlace} (hp:p.block<w.heap.size):w.sameAt w' p:=by
 cases p with
 |cell b o=>exact World.cell?_of_block (hb.block b hp)
 |map b=>exact hb.block b hp
end
end
section
theorem CA {H:Type} (d:DataW H):1≤Rows.uptoBulk d:=by
 cases d with
 |lit l=>cases l<;>simp[Rows.uptoBulk]
 |_=>simp[Rows.uptoBulk]
theorem mz {H:Type}:∀{l:List (DataW H)} {d:DataW H},d∈l→Rows.uptoBulk d≤Rows.uptoBulkAll l
 |x::r,d,h=>by
  simp only[Rows.uptoBulkAll];rcases List.mem_cons.1 h with rfl|h
  ·omega
  have:=mz h;omega
theorem wK {H:Type}:∀(l:List (DataW H)),l.length≤Rows.uptoBulkAll l
 |[]=>by simp[Rows.uptoBulkAll]
 |x::r=>by have:=CA x;have:=wK r;simp only[Rows.uptoBulkAll,List.length_cons];omega
theorem uN.upto {H:Type}:uN 1048576 (fun d:DataW H=>Rows.uptoBulk d≤1048576):=by
 refine⟨fun l m h _=>?_,fun l h d hd=>?_,fun l h _=>?_⟩
 ·simp only[Rows.uptoBulk]at h;have:=wK l;exact⟨by omega,fun d hd=>by have:=mz hd;omega⟩
 ·simp only[Rows.uptoBulk]at h;have:=mz hd;omega
 simp only[Rows.uptoBulk]at h;omega
theorem wL {H:Type} {l:List (DataW H)} (hk:Rows.uptoSmall H l=true):∀d∈l,Rows.uptoBulk d≤1048576:=fun d hd=>by
 have h1:Rows.uptoBulkAll l≤1048576:=of_decide_eq_true hk;have:=mz hd;omega
end
section
section
variable {P:Program} {B n:Nat}
theorem H8 {t:TypeId} {k:IntKind} {l:List PV} (h:Typed P B n t l) (hu:P.underlying t=some (.int k)):∃x,l=[.int k x]∧(Lit.int k x).wf=true:=by
 cases n with
 |zero=>exact h.elim
 |succ n=>simpa only[Typed,hu]using h
theorem fb {t:TypeId} {fs:Array Field} {l:List PV} (h:Typed P B n t l) (hu:P.underlying t=some (.struct fs)):l.length=P.cellsOf t∧∃m,n=m+1∧∀(i:Nat) f,fs[i]?=some f→Typed P B m f.type ((l.drop f.offset).take (P.cellsOf f.type)):=by
 cases n with
 |zero=>exact h.elim
 |succ n =>
  simp only[Typed,hu]at h;exact⟨h.1,n,rfl,h.2⟩
theorem piece {m:Nat} {fs:Array Field} {l:List PV} (hf:∀(i:Nat) f,fs[i]?=some f→Typed P B m f.type ((l.drop f.offset).take (P.cellsOf f.type))) (i o:Nat) (t:TypeId) {z:Nat} (hz:P.cellsOf t=z) (hi:(fs[i]?).map (fun f=>(f.offset,f.type))=some (o,t)) :
  Typed P B m t ((l.drop o).take z):=by
 obtain⟨f,h1,h2⟩:=Option.map_eq_some_iff.mp hi;injection h2 with h2 h3
 have:=hf i f h1;rw[h2,h3,hz]at this;exact this
theorem zw {α:Type} (z:Nat) (enc:α→List PV) (Q:α→Prop) (he:∀x,Q x→(enc x).length=z):∀(m:Nat) (cs:List PV),cs.length=m*z→(∀i,i<m→∃x,(cs.drop (i*z)).take z=enc x∧Q x)→∃xs:List α,xs.length=m∧cs=xs.flatMap enc∧∀x∈xs,Q x
 |0,cs,hl,_=>by
  have:cs=[]:=List.eq_nil_of_length_eq_zero (by simpa using hl);subst this;exact⟨[],rfl,rfl,fun x hx=>by cases hx⟩
 |m+1,cs,hl,h=>by
  obtain⟨x,hx,hq⟩:=h 0 (by omega);rw[Nat.zero_mul,List.drop_zero]at hx;rw[Nat.succ_mul]at hl;obtain⟨xs,h1,h2,h3⟩:=zw z enc Q he m (cs.drop z) (by rw[List.length_drop];omega) fun i hi=>by
   have:=h (i+1) (by omega);rw[List.drop_drop,show z+i*z=(i+1)*z by rw[Nat.succ_mul];omega];exact this
  refine⟨x::xs,by simp[h1],?_,fun y hy=>?_⟩
  ·rw[List.flatMap_cons,←h2,←hx,List.take_append_drop]
  rcases List.mem_cons.mp hy with rfl|hy
  ·exact hq
  exact h3 y hy
theorem gP {α:Type} {t e:TypeId} {l:List PV} (h:Typed P B n t l) (hu:P.underlying t=some (.slice e)) {z:Nat} (hz:P.cellsOf e=z) (enc:α→List PV) (Q:α→Prop) (he:∀x,Q x→(enc x).length=z)
  (hd:∀m c,m<n→Typed P B m e c→∃x,c=enc x∧Q x):∃xs:List α,l=[.sl xs.length (xs.flatMap enc)]∧xs.length≤B∧∀x∈xs,Q x:=by
 cases n with
 |zero=>exact h.elim
 |succ n =>
  simp only[Typed,hu,hz]at h;obtain⟨m,cs,rfl,hm,hl,hi⟩:=h;obtain⟨xs,h1,h2,h3⟩:=zw z enc Q he m cs hl fun i him=>hd n _ (by omega) (hi i him)
  subst h1 h2;exact⟨xs,rfl,hm,h3⟩
theorem CC {t:TypeId} {p:PV} {fs:Array Field} (h:pb P B t p) (hu:P.underlying t=some (.struct fs)):∃n l,Typed P B n t l∧p= .agg l:=by
 obtain⟨n,l,h1,h2⟩:=h;rw[hu]at h2;exact⟨n,l,h1,h2⟩
theorem wf_i64 {x:Int} (h:(Lit.int .i64 x).wf=true): -9223372036854775808≤x∧x≤9223372036854775807:=by
 simp only[Lit.wf,Bool.and_eq_true,decide_eq_true_eq]at h;have e1:IntKind.i64.min= -9223372036854775808:=rfl;have e2:IntKind.i64.max=9223372036854775807:=rfl;omega
end
end
section
theorem zy (n:Int) (h0: -9223372036854775808≤n) (h1:n≤9223372036854775807):ah ctx 45 [.int .i64 n] (.str (Lib.itoa n)):=by
 refine ah.wI (by kernel_rfl) fun w S vs hE hS hp=>?_
 obtain⟨v,rfl,hv⟩:=O5 hp;have:=rJ hv;subst this;refine(Tryz.strconv_Itoa n h0 h1 w hE.tab).mono fun e w' ⟨he,k,os,hw⟩=>⟨_,he,?_,fun _ _=>.str _⟩
 rw[hw];exact below_grown_sl w.heap.size w k os (Nat.le_refl _)
end
section
theorem me {P:Program} {g:Nat} {e:HZ}:∀{l:List (Nat×HZ)},(∀p∈l,∃own,aD P p.1 own=some (p.2.x,p.2.rs,p.2.n,true))→fZ l g=some e→∃own,aD P g own=some (e.x,e.rs,e.n,true)
 |[],_,h=>by cases h
 |(k,y)::r,hl,h=>by
  rw[fZ]at h;cases hk:Nat.beq k g with
  |true =>
   rw[hk,cond_true]at h;injection h with h
   subst h;have:=Nat.eq_of_beq_eq_true hk;subst this;exact hl (k,y) (by simp)
  |false =>
   rw[hk,cond_false]at h;exact me (fun p hp=>hl p (by simp[hp])) h
structure EW (σ:Type) where
 E:σ→World→Prop
 hE:∀k (w w':World),E k w→Below w.heap.size w w'→E k w'
 Fo:Nat→Prop
noncomputable def xo {σ:Type} (X:EW σ):Ay σ:=⟨Tryz.prog,by kernel_rfl,[],X.E,X.hE,X.Fo⟩
def KK:af:=(⟨_,by conv=>(lhs;reduce;try simp only[bD,Int.cast_ofNat_Int,Int.reduceNegSucc,UInt8.reduceOfNat])⟩:{x // codeOf Tryz.prog 446 (fun _=>false)=some x}).1
theorem KL:aD Tryz.prog 446 (fun _=>false)=some (KK,[.t 2],106,true):=by kernel_rfl
def KM:af:=(⟨_,by conv=>(lhs;reduce;try simp only[bD,Int.cast_ofNat_Int,Int.reduceNegSucc,UInt8.reduceOfNat])⟩:{x // codeOf Tryz.prog 421 (fun _=>false)=some x}).1
theorem KN:aD Tryz.prog 421 (fun _=>false)=some (KM,[.t 0],15,true):=by kernel_rfl
def KO:af:=(⟨_,by conv=>(lhs;reduce;try simp only[bD,Int.cast_ofNat_Int,Int.reduceNegSucc,UInt8.reduceOfNat])⟩:{x // codeOf Tryz.prog 423 (fun _=>false)=some x}).1
theorem KP:aD Tryz.prog 423 (fun _=>false)=some (KO,[.t 2],28,true):=by kernel_rfl
def KQ:af:=(⟨_,by conv=>(lhs;reduce;try simp only[bD,Int.cast_ofNat_Int,Int.reduceNegSucc,UInt8.reduceOfNat])⟩:{x // codeOf Tryz.prog 424 (fun _=>false)=some x}).1
theorem KR:aD Tryz.prog 424 (fun _=>false)=some (KQ,[.t 2],9,true):=by kernel_rfl
def KS:af:=(⟨_,by conv=>(lhs;reduce;try simp only[bD,Int.cast_ofNat_Int,Int.reduceNegSucc,UInt8.reduceOfNat])⟩:{x // codeOf Tryz.prog 425 (fun _=>false)=some x}).1
theorem KT:aD Tryz.prog 425 (fun _=>false)=some (KS,[.t 4],20,true):=by kernel_rfl
def KU:af:=(⟨_,by conv=>(lhs;reduce;try simp only[bD,Int.cast_ofNat_Int,Int.reduceNegSucc,UInt8.reduceOfNat])⟩:{x // codeOf Tryz.prog 426 (fun _=>false)=some x}).1
theorem KV:aD Tryz.prog 426 (fun _=>false)=some (KU,[.t 2],13,true):=by kernel_rfl
def KW:af:=(⟨_,by conv=>(lhs;reduce;try simp only[bD,Int.cast_ofNat_Int,Int.reduceNegSucc,UInt8.reduceOfNat])⟩:{x // codeOf Tryz.prog 427 (fun _=>false)=some x}).1
theorem KX:aD Tryz.prog 427 (fun _=>false)=some (KW,[.t 2],9,true):=by kernel_rfl
def KY:af:=(⟨_,by conv=>(lhs;reduce;try simp only[bD,Int.cast_ofNat_Int,Int.reduceNegSucc,UInt8.reduceOfNat])⟩:{x // codeOf Tryz.prog 429 (fun _=>false)=some x}).1
theorem KZ:aD Tryz.prog 429 (fun _=>false)=some (KY,[.t 2],17,true):=by kernel_rfl
def K0:af:=(⟨_,by conv=>(lhs;reduce;try simp only[bD,Int.cast_ofNat_Int,Int.reduceNegSucc,UInt8.reduceOfNat])⟩:{x // codeOf Tryz.prog 447 (fun _=>false)=some x}).1
theorem K1:aD Tryz.prog 447 (fun _=>false)=some (K0,[.t 2],5,true):=by kernel_rfl
def Oe:List (Nat×HZ):=[(446,⟨KK,[.t 2],106⟩),(421,⟨KM,[.t 0],15⟩)]
theorem H9:∀p∈Oe,∃own,aD Tryz.prog p.1 own=some (p.2.x,p.2.rs,p.2.n,true):=by
 simp only[Oe,List.forall_mem_cons];exact⟨⟨_,KL⟩,⟨_,KN⟩,fun _ h=>by cases h⟩
def yl (i:Nat):Option PV:=bif Nat.blt i 256 then some (.int .u8 (bif Nat.beq i 32||(Nat.ble 9 i&&Nat.ble i 13) then 1 else 0)) else none
theorem CD (i:Nat) (p:PV) (h:yl i=some p):zb ctx 6 i p:=by
 intro w hE;unfold yl at h;cases hb:Nat.blt i 256 with
 |false=>rw[hb,cond_false]at h;cases h
 |true =>
  rw[hb,cond_true]at h;injection h with h
  subst h;have hi:=Nat.blt_eq.mp hb;have hlen:i<uK.length:=by simpa [uK]using hi
  have hc:=hE.spc.cell Tryz.EP i hlen;refine⟨_,hc,fun S=>?_⟩;rw[List.getD,List.getElem?_eq_getElem hlen];simp only[uK,List.getElem_map,List.getElem_range,Option.getD_some];exact .int _ _
def NM:jr:={fns:=Oe,pure:=[],ref:=[],tab:=[(6,yl)]}
theorem CE:gf ctx NM where
 dz:=.inl rfl
 fns _ _ h:=me H9 h
 pure g s h:=by cases h
 ref g s h:=by cases h
 tab g l h i p hp:=by
  simp only[NM,fZ]at h;cases hb:Nat.beq 6 g with
  |false=>rw[hb,cond_false]at h;cases h
  |true =>
   rw[hb,cond_true]at h;injection h with h
   subst h;have:=Nat.eq_of_beq_eq_true hb;subst this;exact CD i p hp
def EX:List PV:=[.str [115,111,114,116],.bool true,.str [114,101,108,97,116,105,111,110],.bool true,.str [99,111,117,110,116,101,114],.bool true,.str [115,101,116],.bool true,.str [114,101,103,105,115,116,101,114],.bool true,.str [105,110,118,97,114,105,97,110,116],.bool true,.str [111,112,101,114,97,116,105,111,110],.bool true,.str [107,101,121],.bool true,.str [114,101,102,101,114,101,110,99,101],.bool true,.str [116,111],.bool true,.str [99,111,117,110,116],.bool true,.str [97,99,121,99,108,105,99],.bool true,.str [97,108,108],.bool true,.str [115,117,109],.bool true,.str [105,110],.bool true,.str [97,100,100,119,105,110,115],.bool true,.str [114,101,109,111,118,101,119,105,110,115],.bool true,.str [108,97,115,116],.bool true,.str [109,117,108,116,105],.bool true,.str [104,105,100,101],.bool true,.str [111,114,100,101,114,101,100],.bool true,.str [114,101,113,117,105,114,101],.bool true,.str [104,111,108,100],.bool true,.str [105,110,115,101,114,116],.bool true,.str [100,101,108,101,116,101],.bool true,.str [97,100,100],.bool true,.str [102,114,111,109],.bool true,.str [112,117,116],.bool true,.str [100,114,111,112],.bool true,.str [97,115,115,105,103,110],.bool true,.str [102,111,114],.bool true,.str [119,104,101,114,101],.bool true,.str [97,110,100],.bool true,.str [111,114],.bool true,.str [110,111,116],.bool true]
set_option maxRecDepth 100000 in
theorem Ia:tG NM (run NM 3000) 421 []=some (.mp EX):=by kernel_rfl
theorem K2:ah ctx 421 [] (.mp EX):=fk CE (fR CE 3000) Ia
def Of:List (Nat×HZ):=[(423,⟨KO,[.t 2],28⟩),(424,⟨KQ,[.t 2],9⟩),(425,⟨KS,[.t 4],20⟩),(426,⟨KU,[.t 2],13⟩),(427,⟨KW,[.t 2],9⟩),(429,⟨KY,[.t 2],17⟩),(447,⟨K0,[.t 2],5⟩)]
theorem Ib:∀p∈Of,∃own,aD Tryz.prog p.1 own=some (p.2.x,p.2.rs,p.2.n,true):=by
 simp only[Of,List.forall_mem_cons];exact⟨⟨_,KP⟩,⟨_,KR⟩,⟨_,KT⟩,⟨_,KV⟩,⟨_,KX⟩,⟨_,KZ⟩,⟨_,K1⟩,fun _ h=>by cases h⟩
def O6:jr:={fns:=Of,pure:=[],ref:=[]}
theorem gW {σ:Type} (X:EW σ) (k:σ):gf ((xo X).C k) O6 where
 dz:=.inl rfl
 fns _ _ h:=me (P:=Tryz.prog) Ib h
 pure g s h:=by cases h
 ref g s h:=by cases h
 tab g l h:=by cases h
end
section
def K3:af:=(⟨_,by conv=>(lhs;reduce;try simp only[bD,Int.cast_ofNat_Int,Int.reduceNegSucc,UInt8.reduceOfNat])⟩:{x // codeOf Tryz.prog 10 (fun _=>false)=some x}).1
theorem K4:aD Tryz.prog 10 (fun _=>false)=some (K3,[.t 6,.t 7],32,true):=by kernel_rfl
def K5:af:=(⟨_,by conv=>(lhs;reduce;try simp only[bD,Int.cast_ofNat_Int,Int.reduceNegSucc,UInt8.reduceOfNat])⟩:{x // codeOf Tryz.prog 12 (fun _=>false)=some x}).1
theorem K6:aD Tryz.prog 12 (fun _=>false)=some (K5,[.t 8,.t 9],26,true):=by kernel_rfl
def K7:af:=(⟨_,by conv=>(lhs;reduce;try simp only[bD,Int.cast_ofNat_Int,Int.reduceNegSucc,UInt8.reduceOfNat])⟩:{x // codeOf Tryz.prog 14 (fun _=>false)=some x}).1
theorem K8:aD Tryz.prog 14 (fun _=>false)=some (K7,[.t 4],26,true):=by kernel_rfl
def K9:af:=(⟨_,by conv=>(lhs;reduce;try simp only[bD,Int.cast_ofNat_Int,Int.reduceNegSucc,UInt8.reduceOfNat])⟩:{x // codeOf Tryz.prog 15 (fun d=>Nat.beq d 34)=some x}).1
theorem La:aD Tryz.prog 15 (fun d=>Nat.beq d 34)=some (K9,[.t 8,.t 9],82,true):=by kernel_rfl
def Lb:af:=(⟨_,by conv=>(lhs;reduce;try simp only[bD,Int.cast_ofNat_Int,Int.reduceNegSucc,UInt8.reduceOfNat])⟩:{x // codeOf Tryz.prog 27 (fun _=>false)=some x}).1
theorem Lc:aD Tryz.prog 27 (fun _=>false)=some (Lb,[.cell 0 7 true,.cell 1 4 true,.cell 2 4 true],48,true):=by kernel_rfl
def Ld:af:=(⟨_,by conv=>(lhs;reduce;try simp only[bD,Int.cast_ofNat_Int,Int.reduceNegSucc,UInt8.reduceOfNat])⟩:{x // codeOf Tryz.prog 31 (fun _=>false)=some x}).1
theorem Le:aD Tryz.prog 31 (fun _=>false)=some (Ld,[.t 6],47,true):=by kernel_rfl
def Lf:af:=(⟨_,by conv=>(lhs;reduce;try simp only[bD,Int.cast_ofNat_Int,Int.reduceNegSucc,UInt8.reduceOfNat])⟩:{x // codeOf Tryz.prog 32 (fun _=>false)=some x}).1
theorem Lg:aD Tryz.prog 32 (fun _=>false)=some (Lf,[.t 4],54,true):=by kernel_rfl
def Lh:af:=(⟨_,by conv=>(lhs;reduce;try simp only[bD,Int.cast_ofNat_Int,Int.reduceNegSucc,UInt8.reduceOfNat])⟩:{x // codeOf Tryz.prog 33 (fun _=>false)=some x}).1
theorem Li:aD Tryz.prog 33 (fun _=>false)=some (Lh,[.cell 8 15 true,.t 9],32,true):=by kernel_rfl
def Lj:af:=(⟨_,by conv=>(lhs;reduce;try simp only[bD,Int.cast_ofNat_Int,Int.reduceNegSucc,UInt8.reduceOfNat])⟩:{x // codeOf Tryz.prog 36 (fun _=>false)=some x}).1
theorem Lk:aD Tryz.prog 36 (fun _=>false)=some (Lj,[.t 4,.t 5],44,true):=by kernel_rfl
def Ll:af:=(⟨_,by conv=>(lhs;reduce;try simp only[bD,Int.cast_ofNat_Int,Int.reduceNegSucc,UInt8.reduceOfNat])⟩:{x // codeOf Tryz.prog 37 (fun _=>false)=some x}).1
theorem Lm:aD Tryz.prog 37 (fun _=>false)=some (Ll,[.t 6,.t 7],79,true):=by kernel_rfl
def Ln:af:=(⟨_,by conv=>(lhs;reduce;try simp only[bD,Int.cast_ofNat_Int,Int.reduceNegSucc,UInt8.reduceOfNat])⟩:{x // codeOf Tryz.prog 57 (fun _=>false)=some x}).1
theorem Lo:aD Tryz.prog 57 (fun _=>false)=some (Ln,[.t 2],43,true):=by kernel_rfl
def Lp:af:=(⟨_,by conv=>(lhs;reduce;try simp only[bD,Int.cast_ofNat_Int,Int.reduceNegSucc,UInt8.reduceOfNat])⟩:{x // codeOf Tryz.prog 58 (fun _=>false)=some x}).1
theorem Lq:aD Tryz.prog 58 (fun _=>false)=some (Lp,[.t 4],90,true):=by kernel_rfl
def Lr:af:=(⟨_,by conv=>(lhs;reduce;try simp only[bD,Int.cast_ofNat_Int,Int.reduceNegSucc,UInt8.reduceOfNat])⟩:{x // codeOf Tryz.prog 59 (fun _=>false)=some x}).1
theorem Ls:aD Tryz.prog 59 (fun _=>false)=some (Lr,[.t 4],15,true):=by kernel_rfl
def Lt:af:=(⟨_,by conv=>(lhs;reduce;try simp only[bD,Int.cast_ofNat_Int,Int.reduceNegSucc,UInt8.reduceOfNat])⟩:{x // codeOf Tryz.prog 60 (fun d=>Nat.beq d 70)=some x}).1
theorem Lu:aD Tryz.prog 60 (fun d=>Nat.beq d 70)=some (Lt,[.t 8,.t 9],74,true):=by kernel_rfl
def Lv:af:=(⟨_,by conv=>(lhs;reduce;try simp only[bD,Int.cast_ofNat_Int,Int.reduceNegSucc,UInt8.reduceOfNat])⟩:{x // codeOf Tryz.prog 61 (fun _=>false)=some x}).1
theorem Lw:aD Tryz.prog 61 (fun _=>false)=some (Lv,[.t 4],9,true):=by kernel_rfl
def Lx:af:=(⟨_,by conv=>(lhs;reduce;try simp only[bD,Int.cast_ofNat_Int,Int.reduceNegSucc,UInt8.reduceOfNat])⟩:{x // codeOf Tryz.prog 62 (fun _=>false)=some x}).1
theorem Ly:aD Tryz.prog 62 (fun _=>false)=some (Lx,[.t 5],53,true):=by kernel_rfl
def Lz:af:=(⟨_,by conv=>(lhs;reduce;try simp only[bD,Int.cast_ofNat_Int,Int.reduceNegSucc,UInt8.reduceOfNat])⟩:{x // codeOf Tryz.prog 63 (fun _=>false)=some x}).1
theorem LA:aD Tryz.prog 63 (fun _=>false)=some (Lz,[.t 6],29,true):=by kernel_rfl
def LB:af:=(⟨_,by conv=>(lhs;reduce;try simp only[bD,Int.cast_ofNat_Int,Int.reduceNegSucc,UInt8.reduceOfNat])⟩:{x // codeOf Tryz.prog 66 (fun _=>false)=some x}).1
theorem LC:aD Tryz.prog 66 (fun _=>false)=some (LB,[.t 2],4,true):=by kernel_rfl
def LD:af:=(⟨_,by conv=>(lhs;reduce;try simp only[bD,Int.cast_ofNat_Int,Int.reduceNegSucc,UInt8.reduceOfNat])⟩:{x // codeOf Tryz.prog 68 (fun _=>false)=some x}).1
theorem LF:aD Tryz.prog 68 (fun _=>false)=some (LD,[.t 3],17,true):=by kernel_rfl
def LG:af:=(⟨_,by conv=>(lhs;reduce;try simp only[bD,Int.cast_ofNat_Int,Int.reduceNegSucc,UInt8.reduceOfNat])⟩:{x // codeOf Tryz.prog 69 (fun _=>false)=some x}).1
theorem LH:aD Tryz.prog 69 (fun _=>false)=some (LG,[.t 4],50,true):=by kernel_rfl
def LI:af:=(⟨_,by conv=>(lhs;reduce;try simp only[bD,Int.cast_ofNat_Int,Int.reduceNegSucc,UInt8.reduceOfNat])⟩:{x // codeOf Tryz.prog 70 (fun _=>false)=some x}).1
theorem LJ:aD Tryz.prog 70 (fun _=>false)=some (LI,[.t 2],6,true):=by kernel_rfl
def LK:af:=(⟨_,by conv=>(lhs;reduce;try simp only[bD,Int.cast_ofNat_Int,Int.reduceNegSucc,UInt8.reduceOfNat])⟩:{x // codeOf Tryz.prog 71 (fun _=>false)=some x}).1
theorem LL:aD Tryz.prog 71 (fun _=>false)=some (LK,[.t 4],105,true):=by kernel_rfl
def LM:af:=(⟨_,by conv=>(lhs;reduce;try simp only[bD,Int.cast_ofNat_Int,Int.reduceNegSucc,UInt8.reduceOfNat])⟩:{x // codeOf Tryz.prog 72 (fun _=>false)=some x}).1
theorem LN:aD Tryz.prog 72 (fun _=>false)=some (LM,[.t 2],31,true):=by kernel_rfl
def LO:af:=(⟨_,by conv=>(lhs;reduce;try simp only[bD,Int.cast_ofNat_Int,Int.reduceNegSucc,UInt8.reduceOfNat])⟩:{x // codeOf Tryz.prog 73 (fun _=>false)=some x}).1
theorem LP:aD Tryz.prog 73 (fun _=>false)=some (LO,[.t 4],41,true):=by kernel_rfl
def LQ:af:=(⟨_,by conv=>(lhs;reduce;try simp only[bD,Int.cast_ofNat_Int,Int.reduceNegSucc,UInt8.reduceOfNat])⟩:{x // codeOf Tryz.prog 82 (fun _=>false)=some x}).1
theorem LR:aD Tryz.prog 82 (fun _=>false)=some (LQ,[.t 4],22,true):=by kernel_rfl
def LS:af:=(⟨_,by conv=>(lhs;reduce;try simp only[bD,Int.cast_ofNat_Int,Int.reduceNegSucc,UInt8.reduceOfNat])⟩:{x // codeOf Tryz.prog 83 (fun _=>false)=some x}).1
theorem LU:aD Tryz.prog 83 (fun _=>false)=some (LS,[.t 6],22,true):=by kernel_rfl
def LV:af:=(⟨_,by conv=>(lhs;reduce;try simp only[bD,Int.cast_ofNat_Int,Int.reduceNegSucc,UInt8.reduceOfNat])⟩:{x // codeOf Tryz.prog 84 (fun _=>false)=some x}).1
theorem LW:aD Tryz.prog 84 (fun _=>false)=some (LV,[],35,true):=by kernel_rfl
def LX:af:=(⟨_,by conv=>(lhs;reduce;try simp only[bD,Int.cast_ofNat_Int,Int.reduceNegSucc,UInt8.reduceOfNat])⟩:{x // codeOf Tryz.prog 85 (fun _=>false)=some x}).1
theorem LY:aD Tryz.prog 85 (fun _=>false)=some (LX,[.t 4,.t 5],127,true):=by kernel_rfl
def LZ:af:=(⟨_,by conv=>(lhs;reduce;try simp only[bD,Int.cast_ofNat_Int,Int.reduceNegSucc,UInt8.reduceOfNat])⟩:{x // codeOf Tryz.prog 86 (fun _=>false)=some x}).1
theorem L0:aD Tryz.prog 86 (fun _=>false)=some (LZ,[],21,true):=by kernel_rfl
def L1:af:=(⟨_,by conv=>(lhs;reduce;try simp only[bD,Int.cast_ofNat_Int,Int.reduceNegSucc,UInt8.reduceOfNat])⟩:{x // codeOf Tryz.prog 87 (fun _=>false)=some x}).1
theorem L3:aD Tryz.prog 87 (fun _=>false)=some (L1,[.t 4],33,true):=by kernel_rfl
def L4:af:=(⟨_,by conv=>(lhs;reduce;try simp only[bD,Int.cast_ofNat_Int,Int.reduceNegSucc,UInt8.reduceOfNat])⟩:{x // codeOf Tryz.prog 91 (fun _=>false)=some x}).1
theorem L5:aD Tryz.prog 91 (fun _=>false)=some (L4,[.t 8,.t 9],74,true):=by kernel_rfl
def F4:af:=(⟨_,by conv=>(lhs;reduce;try simp only[bD,Int.cast_ofNat_Int,Int.reduceNegSucc,UInt8.reduceOfNat])⟩:{x // codeOf Tryz.prog 132 (fun _=>false)=some x}).1
theorem Ic:aD Tryz.prog 132 (fun _=>false)=some (F4,[.t 4],76,true):=by kernel_rfl
def F5:af:=(⟨_,by conv=>(lhs;reduce;try simp only[bD,Int.cast_ofNat_Int,Int.reduceNegSucc,UInt8.reduceOfNat])⟩:{x // codeOf Tryz.prog 133 (fun _=>false)=some x}).1
theorem Ie:aD Tryz.prog 133 (fun _=>false)=some (F5,[.t 2],24,true):=by kernel_rfl
def F6:af:=(⟨_,by conv=>(lhs;reduce;try simp only[bD,Int.cast_ofNat_Int,Int.reduceNegSucc,UInt8.reduceOfNat])⟩:{x // codeOf Tryz.prog 134 (fun _=>false)=some x}).1
theorem Ig:aD Tryz.prog 134 (fun _=>false)=some (F6,[.t 6],36,true):=by kernel_rfl
def F7:af:=(⟨_,by conv=>(lhs;reduce;try simp only[bD,Int.cast_ofNat_Int,Int.reduceNegSucc,UInt8.reduceOfNat])⟩:{x // codeOf Tryz.prog 135 (fun _=>false)=some x}).1
theorem Ih:aD Tryz.prog 135 (fun _=>false)=some (F7,[.t 2],105,true):=by kernel_rfl
def F8:af:=(⟨_,by conv=>(lhs;reduce;try simp only[bD,Int.cast_ofNat_Int,Int.reduceNegSucc,UInt8.reduceOfNat])⟩:{x // codeOf Tryz.prog 136 (fun _=>false)=some x}).1
theorem Ii:aD Tryz.prog 136 (fun _=>false)=some (F8,[.t 2],37,true):=by kernel_rfl
def F9:af:=(⟨_,by conv=>(lhs;reduce;try simp only[bD,Int.cast_ofNat_Int,Int.reduceNegSucc,UInt8.reduceOfNat])⟩:{x // codeOf Tryz.prog 137 (fun _=>false)=some x}).1
theorem Ij:aD Tryz.prog 137 (fun _=>false)=some (F9,[.t 2],123,true):=by kernel_rfl
def Ga:af:=(⟨_,by conv=>(lhs;reduce;try simp only[bD,Int.cast_ofNat_Int,Int.reduceNegSucc,UInt8.reduceOfNat])⟩:{x // codeOf Tryz.prog 138 (fun _=>false)=some x}).1
theorem Ik:aD Tryz.prog 138 (fun _=>false)=some (Ga,[.t 2],137,true):=by kernel_rfl
def Gb:af:=(⟨_,by conv=>(lhs;reduce;try simp only[bD,Int.cast_ofNat_Int,Int.reduceNegSucc,UInt8.reduceOfNat])⟩:{x // codeOf Tryz.prog 141 (fun _=>false)=some x}).1
theorem Il:aD Tryz.prog 141 (fun _=>false)=some (Gb,[.t 4],26,true):=by kernel_rfl
def Gc:af:=(⟨_,by conv=>(lhs;reduce;try simp only[bD,Int.cast_ofNat_Int,Int.reduceNegSucc,UInt8.reduceOfNat])⟩:{x // codeOf Tryz.prog 143 (fun _=>false)=some x}).1
theorem Im:aD Tryz.prog 143 (fun _=>false)=some (Gc,[.t 4],26,true):=by kernel_rfl
def Gd:af:=(⟨_,by conv=>(lhs;reduce;try simp only[bD,Int.cast_ofNat_Int,Int.reduceNegSucc,UInt8.reduceOfNat])⟩:{x // codeOf Tryz.prog 145 (fun _=>false)=some x}).1
theorem Io:aD Tryz.prog 145 (fun _=>false)=some (Gd,[.t 6],15,true):=by kernel_rfl
def Ge:af:=(⟨_,by conv=>(lhs;reduce;try simp only[bD,Int.cast_ofNat_Int,Int.reduceNegSucc,UInt8.reduceOfNat])⟩:{x // codeOf Tryz.prog 146 (fun _=>false)=some x}).1
theorem Ip:aD Tryz.prog 146 (fun _=>false)=some (Ge,[.t 4],26,true):=by kernel_rfl
def Gf:af:=(⟨_,by conv=>(lhs;reduce;try simp only[bD,Int.cast_ofNat_Int,Int.reduceNegSucc,UInt8.reduceOfNat])⟩:{x // codeOf Tryz.prog 148 (fun _=>false)=some x}).1
theorem Iq:aD Tryz.prog 148 (fun _=>false)=some (Gf,[.t 4],9,true):=by kernel_rfl
def Gg:af:=(⟨_,by conv=>(lhs;reduce;try simp only[bD,Int.cast_ofNat_Int,Int.reduceNegSucc,UInt8.reduceOfNat])⟩:{x // codeOf Tryz.prog 150 (fun _=>false)=some x}).1
theorem Ir:aD Tryz.prog 150 (fun _=>false)=some (Gg,[.t 4],9,true):=by kernel_rfl
def Gi:af:=(⟨_,by conv=>(lhs;reduce;try simp only[bD,Int.cast_ofNat_Int,Int.reduceNegSucc,UInt8.reduceOfNat])⟩:{x // codeOf Tryz.prog 152 (fun _=>false)=some x}).1
theorem It:aD Tryz.prog 152 (fun _=>false)=some (Gi,[.t 4],17,true):=by kernel_rfl
def Gj:af:=(⟨_,by conv=>(lhs;reduce;try simp only[bD,Int.cast_ofNat_Int,Int.reduceNegSucc,UInt8.reduceOfNat])⟩:{x // codeOf Tryz.prog 153 (fun _=>false)=some x}).1
theorem Iu:aD Tryz.prog 153 (fun _=>false)=some (Gj,[.t 4],9,true):=by kernel_rfl
def Gk:af:=(⟨_,by conv=>(lhs;reduce;try simp only[bD,Int.cast_ofNat_Int,Int.reduceNegSucc,UInt8.reduceOfNat])⟩:{x // codeOf Tryz.prog 154 (fun _=>false)=some x}).1
theorem Iv:aD Tryz.prog 154 (fun _=>false)=some (Gk,[.t 3],8,true):=by kernel_rfl
def Gl:af:=(⟨_,by conv=>(lhs;reduce;try simp only[bD,Int.cast_ofNat_Int,Int.reduceNegSucc,UInt8.reduceOfNat])⟩:{x // codeOf Tryz.prog 155 (fun _=>false)=some x}).1
theorem Iw:aD Tryz.prog 155 (fun _=>false)=some (Gl,[.t 4],75,true):=by kernel_rfl
def Gm:af:=(⟨_,by conv=>(lhs;reduce;try simp only[bD,Int.cast_ofNat_Int,Int.reduceNegSucc,UInt8.reduceOfNat])⟩:{x // codeOf Tryz.prog 156 (fun _=>false)=some x}).1
theorem Ix:aD Tryz.prog 156 (fun _=>false)=some (Gm,[.t 4],20,true):=by kernel_rfl
def Gn:af:=(⟨_,by conv=>(lhs;reduce;try simp only[bD,Int.cast_ofNat_Int,Int.reduceNegSucc,UInt8.reduceOfNat])⟩:{x // codeOf Tryz.prog 157 (fun _=>false)=some x}).1
theorem Iy:aD Tryz.prog 157 (fun _=>false)=some (Gn,[.t 6],70,true):=by kernel_rfl
def Gp:af:=(⟨_,by conv=>(lhs;reduce;try simp only[bD,Int.cast_ofNat_Int,Int.reduceNegSucc,UInt8.reduceOfNat])⟩:{x // codeOf Tryz.prog 158 (fun _=>false)=some x}).1
theorem Iz:aD Tryz.prog 158 (fun _=>false)=some (Gp,[.t 4],19,true):=by kernel_rfl
def Gq:af:=(⟨_,by conv=>(lhs;reduce;try simp only[bD,Int.cast_ofNat_Int,Int.reduceNegSucc,UInt8.reduceOfNat])⟩:{x // codeOf Tryz.prog 161 (fun _=>false)=some x}).1
theorem IA:aD Tryz.prog 161 (fun _=>false)=some (Gq,[.t 2],5,true):=by kernel_rfl
def Gr:af:=(⟨_,by conv=>(lhs;reduce;try simp only[bD,Int.cast_ofNat_Int,Int.reduceNegSucc,UInt8.reduceOfNat])⟩:{x // codeOf Tryz.prog 165 (fun _=>false)=some x}).1
theorem IB:aD Tryz.prog 165 (fun _=>false)=some (Gr,[.t 4],12,true):=by kernel_rfl
def Gs:af:=(⟨_,by conv=>(lhs;reduce;try simp only[bD,Int.cast_ofNat_Int,Int.reduceNegSucc,UInt8.reduceOfNat])⟩:{x // codeOf Tryz.prog 166 (fun _=>false)=some x}).1
theorem IC:aD Tryz.prog 166 (fun _=>false)=some (Gs,[.t 4],75,true):=by kernel_rfl
def Gt:af:=(⟨_,by conv=>(lhs;reduce;try simp only[bD,Int.cast_ofNat_Int,Int.reduceNegSucc,UInt8.reduceOfNat])⟩:{x // codeOf Tryz.prog 168 (fun _=>false)=some x}).1
theorem ID:aD Tryz.prog 168 (fun _=>false)=some (Gt,[.t 4],103,true):=by kernel_rfl
def Gu:af:=(⟨_,by conv=>(lhs;reduce;try simp only[bD,Int.cast_ofNat_Int,Int.reduceNegSucc,UInt8.reduceOfNat])⟩:{x // codeOf Tryz.prog 175 (fun _=>false)=some x}).1
theorem IE:aD Tryz.prog 175 (fun _=>false)=some (Gu,[.t 4],21,true):=by kernel_rfl
def Gv:af:=(⟨_,by conv=>(lhs;reduce;try simp only[bD,Int.cast_ofNat_Int,Int.reduceNegSucc,UInt8.reduceOfNat])⟩:{x // codeOf Tryz.prog 176 (fun _=>false)=some x}).1
theorem IF:aD Tryz.prog 176 (fun _=>false)=some (Gv,[.t 6],143,true):=by kernel_rfl
def Gw:af:=(⟨_,by conv=>(lhs;reduce;try simp only[bD,Int.cast_ofNat_Int,Int.reduceNegSucc,UInt8.reduceOfNat])⟩:{x // codeOf Tryz.prog 177 (fun _=>false)=some x}).1
theorem IG:aD Tryz.prog 177 (fun _=>false)=some (Gw,[.t 6],26,true):=by kernel_rfl
def Gx:af:=(⟨_,by conv=>(lhs;reduce;try simp only[bD,Int.cast_ofNat_Int,Int.reduceNegSucc,UInt8.reduceOfNat])⟩:{x // codeOf Tryz.prog 179 (fun _=>false)=some x}).1
theorem IH:aD Tryz.prog 179 (fun _=>false)=some (Gx,[.t 4],89,true):=by kernel_rfl
def Gy:af:=(⟨_,by conv=>(lhs;reduce;try simp only[bD,Int.cast_ofNat_Int,Int.reduceNegSucc,UInt8.reduceOfNat])⟩:{x // codeOf Tryz.prog 181 (fun _=>false)=some x}).1
theorem II:aD Tryz.prog 181 (fun _=>false)=some (Gy,[.t 4],71,true):=by kernel_rfl
def Gz:af:=(⟨_,by conv=>(lhs;reduce;try simp only[bD,Int.cast_ofNat_Int,Int.reduceNegSucc,UInt8.reduceOfNat])⟩:{x // codeOf Tryz.prog 185 (fun _=>false)=some x}).1
theorem IJ:aD Tryz.prog 185 (fun _=>false)=some (Gz,[.t 4],8,true):=by kernel_rfl
def GA:af:=(⟨_,by conv=>(lhs;reduce;try simp only[bD,Int.cast_ofNat_Int,Int.reduceNegSucc,UInt8.reduceOfNat])⟩:{x // codeOf Tryz.prog 187 (fun _=>false)=some x}).1
theorem IK:aD Tryz.prog 187 (fun _=>false)=some (GA,[.t 4],17,true):=by kernel_rfl
def GB:af:=(⟨_,by conv=>(lhs;reduce;try simp only[bD,Int.cast_ofNat_Int,Int.reduceNegSucc,UInt8.reduceOfNat])⟩:{x // codeOf Tryz.prog 190 (fun _=>false)=some x}).1
theorem IL:aD Tryz.prog 190 (fun _=>false)=some (GB,[.t 4],19,true):=by kernel_rfl
def GC:af:=(⟨_,by conv=>(lhs;reduce;try simp only[bD,Int.cast_ofNat_Int,Int.reduceNegSucc,UInt8.reduceOfNat])⟩:{x // codeOf Tryz.prog 192 (fun _=>false)=some x}).1
theorem IM:aD Tryz.prog 192 (fun _=>false)=some (GC,[.t 8],44,true):=by kernel_rfl
def GD:af:=(⟨_,by conv=>(lhs;reduce;try simp only[bD,Int.cast_ofNat_Int,Int.reduceNegSucc,UInt8.reduceOfNat])⟩:{x // codeOf Tryz.prog 195 (fun _=>false)=some x}).1
theorem IN:aD Tryz.prog 195 (fun _=>false)=some (GD,[.t 4],9,true):=by kernel_rfl
def GG:af:=(⟨_,by conv=>(lhs;reduce;try simp only[bD,Int.cast_ofNat_Int,Int.reduceNegSucc,UInt8.reduceOfNat])⟩:{x // codeOf Tryz.prog 238 (fun _=>false)=some x}).1
theorem IP:aD Tryz.prog 238 (fun _=>false)=some (GG,[.t 2],6,true):=by kernel_rfl
def GH:af:=(⟨_,by conv=>(lhs;reduce;try simp only[bD,Int.cast_ofNat_Int,Int.reduceNegSucc,UInt8.reduceOfNat])⟩:{x // codeOf Tryz.prog 239 (fun _=>false)=some x}).1
theorem IQ:aD Tryz.prog 239 (fun _=>false)=some (GH,[.t 2],6,true):=by kernel_rfl
def GI:af:=(⟨_,by conv=>(lhs;reduce;try simp only[bD,Int.cast_ofNat_Int,Int.reduceNegSucc,UInt8.reduceOfNat])⟩:{x // codeOf Tryz.prog 241 (fun _=>false)=some x}).1
theorem IS:aD Tryz.prog 241 (fun _=>false)=some (GI,[.t 6],15,true):=by kernel_rfl
def GJ:af:=(⟨_,by conv=>(lhs;reduce;try simp only[bD,Int.cast_ofNat_Int,Int.reduceNegSucc,UInt8.reduceOfNat])⟩:{x // codeOf Tryz.prog 242 (fun _=>false)=some x}).1
theorem IT:aD Tryz.prog 242 (fun _=>false)=some (GJ,[.t 4],14,true):=by kernel_rfl
def GK:af:=(⟨_,by conv=>(lhs;reduce;try simp only[bD,Int.cast_ofNat_Int,Int.reduceNegSucc,UInt8.reduceOfNat])⟩:{x // codeOf Tryz.prog 244 (fun _=>false)=some x}).1
theorem IU:aD Tryz.prog 244 (fun _=>false)=some (GK,[.t 2],11,true):=by kernel_rfl
def GL:af:=(⟨_,by conv=>(lhs;reduce;try simp only[bD,Int.cast_ofNat_Int,Int.reduceNegSucc,UInt8.reduceOfNat])⟩:{x // codeOf Tryz.prog 245 (fun _=>false)=some x}).1
theorem IV:aD Tryz.prog 245 (fun _=>false)=some (GL,[.t 4],22,true):=by kernel_rfl
def GN:af:=(⟨_,by conv=>(lhs;reduce;try simp only[bD,Int.cast_ofNat_Int,Int.reduceNegSucc,UInt8.reduceOfNat])⟩:{x // codeOf Tryz.prog 246 (fun _=>false)=some x}).1
theorem IW:aD Tryz.prog 246 (fun _=>false)=some (GN,[.t 4],48,true):=by kernel_rfl
def GO:af:=(⟨_,by conv=>(lhs;reduce;try simp only[bD,Int.cast_ofNat_Int,Int.reduceNegSucc,UInt8.reduceOfNat])⟩:{x // codeOf Tryz.prog 247 (fun _=>false)=some x}).1
theorem IX:aD Tryz.prog 247 (fun _=>false)=some (GO,[.t 4],44,true):=by kernel_rfl
def GP:af:=(⟨_,by conv=>(lhs;reduce;try simp only[bD,Int.cast_ofNat_Int,Int.reduceNegSucc,UInt8.reduceOfNat])⟩:{x // codeOf Tryz.prog 249 (fun _=>false)=some x}).1
theorem IY:aD Tryz.prog 249 (fun _=>false)=some (GP,[.t 8],22,true):=by kernel_rfl
def GQ:af:=(⟨_,by conv=>(lhs;reduce;try simp only[bD,Int.cast_ofNat_Int,Int.reduceNegSucc,UInt8.reduceOfNat])⟩:{x // codeOf Tryz.prog 251 (fun _=>false)=some x}).1
theorem IZ:aD Tryz.prog 251 (fun _=>false)=some (GQ,[.t 4],14,true):=by kernel_rfl
def GR:af:=(⟨_,by conv=>(lhs;reduce;try simp only[bD,Int.cast_ofNat_Int,Int.reduceNegSucc,UInt8.reduceOfNat])⟩:{x // codeOf Tryz.prog 253 (fun _=>false)=some x}).1
theorem I0:aD Tryz.prog 253 (fun _=>false)=some (GR,[.t 4],80,true):=by kernel_rfl
def GS:af:=(⟨_,by conv=>(lhs;reduce;try simp only[bD,Int.cast_ofNat_Int,Int.reduceNegSucc,UInt8.reduceOfNat])⟩:{x // codeOf Tryz.prog 258 (fun _=>false)=some x}).1
theorem I1:aD Tryz.prog 258 (fun _=>false)=some (GS,[.t 4],26,true):=by kernel_rfl
def GU:af:=(⟨_,by conv=>(lhs;reduce;try simp only[bD,Int.cast_ofNat_Int,Int.reduceNegSucc,UInt8.reduceOfNat])⟩:{x // codeOf Tryz.prog 261 (fun _=>false)=some x}).1
theorem I2:aD Tryz.prog 261 (fun _=>false)=some (GU,[.t 4],19,true):=by kernel_rfl
def GV:af:=(⟨_,by conv=>(lhs;reduce;try simp only[bD,Int.cast_ofNat_Int,Int.reduceNegSucc,UInt8.reduceOfNat])⟩:{x // codeOf Tryz.prog 262 (fun _=>false)=some x}).1
theorem I3:aD Tryz.prog 262 (fun _=>false)=some (GV,[.t 6],12,true):=by kernel_rfl
def GW:af:=(⟨_,by conv=>(lhs;reduce;try simp only[bD,Int.cast_ofNat_Int,Int.reduceNegSucc,UInt8.reduceOfNat])⟩:{x // codeOf Tryz.prog 263 (fun _=>false)=some x}).1
theorem I4:aD Tryz.prog 263 (fun _=>false)=some (GW,[.t 4],19,true):=by kernel_rfl
def GX:af:=(⟨_,by conv=>(lhs;reduce;try simp only[bD,Int.cast_ofNat_Int,Int.reduceNegSucc,UInt8.reduceOfNat])⟩:{x // codeOf Tryz.prog 267 (fun _=>false)=some x}).1
theorem I5:aD Tryz.prog 267 (fun _=>false)=some (GX,[.t 6,.t 7],77,true):=by kernel_rfl
def GY:af:=(⟨_,by conv=>(lhs;reduce;try simp only[bD,Int.cast_ofNat_Int,Int.reduceNegSucc,UInt8.reduceOfNat])⟩:{x // codeOf Tryz.prog 268 (fun _=>false)=some x}).1
theorem I6:aD Tryz.prog 268 (fun _=>false)=some (GY,[.t 2],9,true):=by kernel_rfl
def GZ:af:=(⟨_,by conv=>(lhs;reduce;try simp only[bD,Int.cast_ofNat_Int,Int.reduceNegSucc,UInt8.reduceOfNat])⟩:{x // codeOf Tryz.prog 269 (fun _=>false)=some x}).1
theorem I7:aD Tryz.prog 269 (fun _=>false)=some (GZ,[.t 2],9,true):=by kernel_rfl
def G0:af:=(⟨_,by conv=>(lhs;reduce;try simp only[bD,Int.cast_ofNat_Int,Int.reduceNegSucc,UInt8.reduceOfNat])⟩:{x // codeOf Tryz.prog 273 (fun _=>false)=some x}).1
theorem I8:aD Tryz.prog 273 (fun _=>false)=some (G0,[.t 4],14,true):=by kernel_rfl
def G1:af:=(⟨_,by conv=>(lhs;reduce;try simp only[bD,Int.cast_ofNat_Int,Int.reduceNegSucc,UInt8.reduceOfNat])⟩:{x // codeOf Tryz.prog 283 (fun _=>false)=some x}).1
theorem I9:aD Tryz.prog 283 (fun _=>false)=some (G1,[.t 4],11,true):=by kernel_rfl
def G2:af:=(⟨_,by conv=>(lhs;reduce;try simp only[bD,Int.cast_ofNat_Int,Int.reduceNegSucc,UInt8.reduceOfNat])⟩:{x // codeOf Tryz.prog 284 (fun _=>false)=some x}).1
theorem Ja:aD Tryz.prog 284 (fun _=>false)=some (G2,[.t 4],18,true):=by kernel_rfl
def G3:af:=(⟨_,by conv=>(lhs;reduce;try simp only[bD,Int.cast_ofNat_Int,Int.reduceNegSucc,UInt8.reduceOfNat])⟩:{x // codeOf Tryz.prog 288 (fun d=>Nat.beq d 5)=some x}).1
theorem Jb:aD Tryz.prog 288 (fun d=>Nat.beq d 5)=some (G3,[.t 2],8,true):=by kernel_rfl
def G4:af:=(⟨_,by conv=>(lhs;reduce;try simp only[bD,Int.cast_ofNat_Int,Int.reduceNegSucc,UInt8.reduceOfNat])⟩:{x // codeOf Tryz.prog 290 (fun _=>false)=some x}).1
theorem Jc:aD Tryz.prog 290 (fun _=>false)=some (G4,[.t 4],52,true):=by kernel_rfl
def G5:af:=(⟨_,by conv=>(lhs;reduce;try simp only[bD,Int.cast_ofNat_Int,Int.reduceNegSucc,UInt8.reduceOfNat])⟩:{x // codeOf Tryz.prog 291 (fun _=>false)=some x}).1
theorem Jd:aD Tryz.prog 291 (fun _=>false)=some (G5,[.t 6],28,true):=by kernel_rfl
def G6:af:=(⟨_,by conv=>(lhs;reduce;try simp only[bD,Int.cast_ofNat_Int,Int.reduceNegSucc,UInt8.reduceOfNat])⟩:{x // codeOf Tryz.prog 330 (fun _=>false)=some x}).1
theorem Je:aD Tryz.prog 330 (fun _=>false)=some (G6,[.t 4],9,true):=by kernel_rfl
def G7:af:=(⟨_,by conv=>(lhs;reduce;try simp only[bD,Int.cast_ofNat_Int,Int.reduceNegSucc,UInt8.reduceOfNat])⟩:{x // codeOf Tryz.prog 334 (fun _=>false)=some x}).1
theorem Jf:aD Tryz.prog 334 (fun _=>false)=some (G7,[.t 4,.t 5],30,true):=by kernel_rfl
def G8:af:=(⟨_,by conv=>(lhs;reduce;try simp only[bD,Int.cast_ofNat_Int,Int.reduceNegSucc,UInt8.reduceOfNat])⟩:{x // codeOf Tryz.prog 340 (fun _=>false)=some x}).1
theorem Jg:aD Tryz.prog 340 (fun _=>false)=some (G8,[.t 4],9,true):=by kernel_rfl
def G9:af:=(⟨_,by conv=>(lhs;reduce;try simp only[bD,Int.cast_ofNat_Int,Int.reduceNegSucc,UInt8.reduceOfNat])⟩:{x // codeOf Tryz.prog 345 (fun _=>false)=some x}).1
theorem Jh:aD Tryz.prog 345 (fun _=>false)=some (G9,[.t 2],11,true):=by kernel_rfl
def Ha:af:=(⟨_,by conv=>(lhs;reduce;try simp only[bD,Int.cast_ofNat_Int,Int.reduceNegSucc,UInt8.reduceOfNat])⟩:{x // codeOf Tryz.prog 346 (fun _=>false)=some x}).1
theorem Ji:aD Tryz.prog 346 (fun _=>false)=some (Ha,[.t 4],24,true):=by kernel_rfl
def Hb:af:=(⟨_,by conv=>(lhs;reduce;try simp only[bD,Int.cast_ofNat_Int,Int.reduceNegSucc,UInt8.reduceOfNat])⟩:{x // codeOf Tryz.prog 347 (fun _=>false)=some x}).1
theorem Jj:aD Tryz.prog 347 (fun _=>false)=some (Hb,[.t 4],9,true):=by kernel_rfl
def Hc:af:=(⟨_,by conv=>(lhs;reduce;try simp only[bD,Int.cast_ofNat_Int,Int.reduceNegSucc,UInt8.reduceOfNat])⟩:{x // codeOf Tryz.prog 357 (fun _=>false)=some x}).1
theorem Jk:aD Tryz.prog 357 (fun _=>false)=some (Hc,[.t 4],18,true):=by kernel_rfl
def Hd:af:=(⟨_,by conv=>(lhs;reduce;try simp only[bD,Int.cast_ofNat_Int,Int.reduceNegSucc,UInt8.reduceOfNat])⟩:{x // codeOf Tryz.prog 359 (fun _=>false)=some x}).1
theorem Jl:aD Tryz.prog 359 (fun _=>false)=some (Hd,[.t 4],26,true):=by kernel_rfl
def He:af:=(⟨_,by conv=>(lhs;reduce;try simp only[bD,Int.cast_ofNat_Int,Int.reduceNegSucc,UInt8.reduceOfNat])⟩:{x // codeOf Tryz.prog 390 (fun _=>false)=some x}).1
theorem Jm:aD Tryz.prog 390 (fun _=>false)=some (He,[.t 4],19,true):=by kernel_rfl
def Hf:af:=(⟨_,by conv=>(lhs;reduce;try simp only[bD,Int.cast_ofNat_Int,Int.reduceNegSucc,UInt8.reduceOfNat])⟩:{x // codeOf Tryz.prog 393 (fun _=>false)=some x}).1
theorem Jn:aD Tryz.prog 393 (fun _=>false)=some (Hf,[.t 4,.t 5],51,true):=by kernel_rfl
def Hg:af:=(⟨_,by conv=>(lhs;reduce;try simp only[bD,Int.cast_ofNat_Int,Int.reduceNegSucc,UInt8.reduceOfNat])⟩:{x // codeOf Tryz.prog 396 (fun _=>false)=some x}).1
theorem Jo:aD Tryz.prog 396 (fun _=>false)=some (Hg,[.t 4],19,true):=by kernel_rfl
def Hh:af:=(⟨_,by conv=>(lhs;reduce;try simp only[bD,Int.cast_ofNat_Int,Int.reduceNegSucc,UInt8.reduceOfNat])⟩:{x // codeOf Tryz.prog 398 (fun _=>false)=some x}).1
theorem Jp:aD Tryz.prog 398 (fun _=>false)=some (Hh,[.t 4],9,true):=by kernel_rfl
def Hj:af:=(⟨_,by conv=>(lhs;reduce;try simp only[bD,Int.cast_ofNat_Int,Int.reduceNegSucc,UInt8.reduceOfNat])⟩:{x // codeOf Tryz.prog 401 (fun _=>false)=some x}).1
theorem Jq:aD Tryz.prog 401 (fun _=>false)=some (Hj,[.t 2,.t 3],100,true):=by kernel_rfl
def Hk:af:=(⟨_,by conv=>(lhs;reduce;try simp only[bD,Int.cast_ofNat_Int,Int.reduceNegSucc,UInt8.reduceOfNat])⟩:{x // codeOf Tryz.prog 402 (fun _=>false)=some x}).1
theorem Jr:aD Tryz.prog 402 (fun _=>false)=some (Hk,[.t 4],74,true):=by kernel_rfl
def Hl:af:=(⟨_,by conv=>(lhs;reduce;try simp only[bD,Int.cast_ofNat_Int,Int.reduceNegSucc,UInt8.reduceOfNat])⟩:{x // codeOf Tryz.prog 407 (fun _=>false)=some x}).1
theorem Js:aD Tryz.prog 407 (fun _=>false)=some (Hl,[.t 4],22,true):=by kernel_rfl
def Hm:af:=(⟨_,by conv=>(lhs;reduce;try simp only[bD,Int.cast_ofNat_Int,Int.reduceNegSucc,UInt8.reduceOfNat])⟩:{x // codeOf Tryz.prog 431 (fun _=>false)=some x}).1
theorem Jt:aD Tryz.prog 431 (fun _=>false)=some (Hm,[.t 4],19,true):=by kernel_rfl
def L6:List bx:=[
 ⟨(some 0),.mv (.c (.bool false)),none⟩]
def L7:List bx:=[
 ⟨(some 13),.call 27 [],none⟩,
 ⟨(some 12),.mv (.t 13),none⟩,
 ⟨(some 14),.extract (.t 12) 0,none⟩,
 ⟨(some 15),.extract (.t 12) 1,none⟩,
 ⟨(some 16),.extract (.t 12) 2,none⟩,
 ⟨(some 1),.alloc 30 [.nilsl,.nilsl,.nilsl,.nilsl,.nilsl,.nilsl,.nilsl],none⟩,
 ⟨(some 2),.alloc 35 [.nilsl,.nilsl,.nilsl,.nilsl],none⟩,
 ⟨(some 3),.alloc 38 [(.int .i64 0),(.int .i64 0),.nilsl,.nilsl],none⟩,
 ⟨none,.store (.t 1) (.t 14) 7,none⟩,
 ⟨none,.store (.t 2) (.t 15) 4,none⟩,
 ⟨none,.store (.t 3) (.t 16) 4,none⟩]
def L8:List bx:=[
 ⟨(some 18),.load (.t 1) 7 true,none⟩,
 ⟨(some 19),.load (.t 2) 4 true,none⟩,
 ⟨(some 20),.load (.t 3) 4 true,none⟩,
 ⟨(some 21),.call 10 [(.t 18),(.t 19),(.t 20)],none⟩,
 ⟨(some 17),.mv (.t 21),none⟩,
 ⟨(some 22),.extract (.t 17) 0,none⟩,
 ⟨(some 23),.extract (.t 17) 1,none⟩,
 ⟨(some 4),.mv (.t 22),none⟩,
 ⟨(some 5),.mv (.t 23),none⟩]
def L9:List bx:=[
 ⟨(some 25),.load (.t 3) 4 true,none⟩,
 ⟨(some 26),.call 18 [(.t 25)],none⟩,
 ⟨(some 24),.mv (.t 26),none⟩,
 ⟨(some 27),.extract (.t 24) 0,none⟩,
 ⟨(some 28),.extract (.t 24) 1,none⟩,
 ⟨(some 6),.alloc 49 [(.int .i64 0),(.int .i64 0),(.int .i64 0),(.int .i64 0),(.int .i64 0),(.int .i64 0),(.int .i64 0),(.int .i64 0),(.int .i64 0),(.int .i64 0),(.int .i64 0),(.int .i64 0),(.int .i64 0),(.int .i64 0),(.int .i64 0)],none⟩,
 ⟨none,.store (.t 6) (.t 27) 15,none⟩,
 ⟨(some 7),.mv (.t 28),none⟩]
def Mb:List bx:=[
 ⟨(some 30),.load (.t 1) 7 true,none⟩,
 ⟨(some 31),.load (.t 2) 4 true,none⟩,
 ⟨(some 32),.load (.t 3) 4 true,none⟩,
 ⟨(some 33),.call 15 [(.t 30),(.t 31),(.t 32),(.c (.int .i64 1))],none⟩,
 ⟨(some 29),.mv (.t 33),none⟩,
 ⟨(some 34),.extract (.t 29) 0,none⟩,
 ⟨(some 35),.extract (.t 29) 1,none⟩,
 ⟨(some 8),.mv (.t 34),none⟩,
 ⟨(some 9),.mv (.t 35),none⟩]
def Mc:List bx:=[
 ⟨(some 37),.load (.t 1) 7 true,none⟩,
 ⟨(some 38),.load (.t 2) 4 true,none⟩,
 ⟨(some 39),.load (.t 3) 4 true,none⟩,
 ⟨(some 40),.call 12 [(.t 37),(.t 38),(.t 39),(.c (.int .i64 3))],none⟩,
 ⟨(some 36),.mv (.t 40),none⟩,
 ⟨(some 41),.extract (.t 36) 0,none⟩,
 ⟨(some 42),.extract (.t 36) 1,none⟩,
 ⟨(some 10),.mv (.t 41),none⟩,
 ⟨(some 11),.mv (.t 42),none⟩]
def Md:List bx:=[
 ⟨(some 43),.mv (.t 5),none⟩,
 ⟨(some 44),.bin .eql (.t 43) (.c (.int .i64 0)),none⟩,
 ⟨(some 45),.mv (.t 44),none⟩,
 ⟨(some 46),.mv (.t 4),some (45,true)⟩,
 ⟨(some 47),.lit false 9 1 5 [(.str [])] [(0,1,(.c (.str [116,105,99,107,32,48,32,114,101,112,108,105,99,97,32,48,58,32,115,101,115,115,105,111,110,32,49,32,115,117,98,109,105,116,115,32,117,112,40,41,32,97,115,32,115,117,98,109,105,115,115,105,111,110,32,49]))),(1,1,(.c (.str [116,105,99,107,32,48,32,114,101,112,108,105,99,97,32,48,58,32,115,117,98,109,105,115,115,105,111,110,32,49,32,119,97,105,116,115,32,102,111,114,32,50,32,114,105,103,104,116,115,32,111,102,32,99,58,32,99,40,41,32,60,61,32,57]))),(2,1,(.c (.str [116,105,99,107,32,51,32,114,101,112,108,105,99,97,32,48,58,32,101,120,101,99,117,116,101,115,32,117,112,40,41]))),(3,1,(.c (.str [116,105,99,107,32,51,32,114,101,112,108,105,99,97,32,48,58,32,115,117,98,109,105,115,115,105,111,110,32,49,32,105,115,32,101,120,101,99,117,116,101,100,32,97,115,32,101,118,101,110,116,32,49]))),(4,1,(.c (.str [116,105,99,107,32,52,32,114,101,112,108,105,99,97,32,49,58,32,114,101,99,101,105,118,101,115,32,101,118,101,110,116,32,49,32,111,102,32,114,101,112,108,105,99,97,32,48,58,32,117,112,40,41])))],some (45,true)⟩,
 ⟨(some 48),.call 14 [(.t 46),(.t 47)],some (45,true)⟩,
 ⟨(some 49),.pick (.t 45) (.t 48) (.c (.bool false)),none⟩,
 ⟨(some 50),.mv (.t 49),none⟩,
 ⟨(some 51),.mv (.t 7),some (50,true)⟩,
 ⟨(some 52),.bin .eql (.t 51) (.c (.int .i64 0)),some (50,true)⟩,
 ⟨(some 53),.pick (.t 50) (.t 52) (.c (.bool false)),none⟩,
 ⟨(some 54),.mv (.t 53),none⟩,
 ⟨(some 55),.load (.t 6) 15 true,some (54,true)⟩,
 ⟨(some 56),.build [(.int .i64 0),(.int .i64 0),(.int .i64 0),(.int .i64 0),(.int .i64 0),(.int .i64 0),(.int .i64 0),(.int .i64 0),(.int .i64 0),(.int .i64 0),(.int .i64 0),(.int .i64 0),(.int .i64 0),(.int .i64 0),(.int .i64 0)] [(0,1,(.c (.int .i64 1))),(1,1,(.c (.int .i64 1))),(3,1,(.c (.int .i64 1))),(5,1,(.c (.int .i64 1))),(6,1,(.c (.int .i64 1))),(13,1,(.c (.int .i64 3))),(14,1,(.c (.int .i64 3)))],some (54,true)⟩,
 ⟨(some 57),.eqA false [(0,0),(1,0),(2,0),(3,0),(4,0),(5,0),(6,0),(7,0),(8,0),(9,0),(10,0),(11,0),(12,0),(13,0),(14,0)] (.t 55) (.t 56),some (54,true)⟩,
 ⟨(some 58),.pick (.t 54) (.t 57) (.c (.bool false)),none⟩,
 ⟨(some 59),.mv (.t 58),none⟩,
 ⟨(some 60),.mv (.t 9),some (59,true)⟩,
 ⟨(some 61),.bin .eql (.t 60) (.c (.int .i64 0)),some (59,true)⟩,
 ⟨(some 62),.pick (.t 59) (.t 61) (.c (.bool false)),none⟩,
 ⟨(some 63),.mv (.t 62),none⟩,
 ⟨(some 64),.mv (.t 8),some (63,true)⟩,
 ⟨(some 65),.len (.t 64),some (63,true)⟩,
 ⟨(some 66),.bin .eql (.t 65) (.c (.int .i64 2)),some (63,true)⟩,
 ⟨(some 67),.pick (.t 63) (.t 66) (.c (.bool false)),none⟩,
 ⟨(some 68),.mv (.t 67),none⟩,
 ⟨(some 69),.mv (.t 8),some (68,true)⟩,
 ⟨(some 70),.indexSl (.t 69) (.c (.int .i64 1)) 1,some (68,true)⟩,
 ⟨(some 71),.load (.t 70) 1 false,some (68,true)⟩,
 ⟨(some 72),.bin .eql (.t 71) (.c (.str [32,32,117,112,40,41,32,99,97,110,32,119,97,105,116,32,102,111,114,32,114,105,103,104,116,115,32,111,102,32,99,58,32,99,40,41,32,60,61,32,57])),some (68,true)⟩,
 ⟨(some 73),.pick (.t 68) (.t 72) (.c (.bool false)),none⟩,
 ⟨(some 74),.mv (.t 73),none⟩,
 ⟨(some 75),.mv (.t 11),some (74,true)⟩,
 ⟨(some 76),.bin .eql (.t 75) (.c (.int .i64 0)),some (74,true)⟩,
 ⟨(some 77),.pick (.t 74) (.t 76) (.c (.bool false)),none⟩,
 ⟨(some 78),.mv (.t 77),none⟩,
 ⟨(some 79),.mv (.t 10),some (78,true)⟩,
 ⟨(some 80),.mv (.t 4),some (78,true)⟩,
 ⟨(some 81),.indexSl (.t 80) (.c (.int .i64 3)) 1,some (78,true)⟩,
 ⟨(some 82),.load (.t 81) 1 false,some (78,true)⟩,
 ⟨(some 83),.bin .eql (.t 79) (.t 82),some (78,true)⟩,
 ⟨(some 84),.pick (.t 78) (.t 83) (.c (.bool false)),none⟩,
 ⟨(some 85),.mv (.t 84),none⟩,
 ⟨(some 86),.load (.t 6) 15 true,some (85,true)⟩,
 ⟨(some 87),.call 20 [(.t 86)],some (85,true)⟩,
 ⟨(some 88),.len (.t 87),some (85,true)⟩,
 ⟨(some 89),.bin .eql (.t 88) (.c (.int .i64 5)),some (85,true)⟩,
 ⟨(some 90),.pick (.t 85) (.t 89) (.c (.bool false)),none⟩,
 ⟨(some 0),.mv (.t 90),none⟩]
def O0:af:=(.seq (.region false L6) (.seq (.region false L7) (.seq (.region false L8) (.seq (.region false L9) (.seq (.region false Mb) (.seq (.region false Mc) (.seq (.region false Md) .ret)))))))
theorem Og:aD Tryz.prog 8 (fun _=>false)=some (O0,[.t 0],91,true):=by kernel_rfl
def EY:List bx:=[
 ⟨(some 1),.box 113 (.t 0) 6,none⟩,
 ⟨(some 2),.mv (.c (.bool false)),none⟩]
def EZ:List bx:=[
 ⟨(some 3),.fieldAddr (.t 1) 1,none⟩,
 ⟨(some 4),.load (.t 3) 1 false,none⟩]
def E0:List bx:=[
 ⟨(some 6),.bin .eql (.t 4) (.c (.int .i64 1)),none⟩,
 ⟨(some 5),.mv (.t 6),none⟩]
def E1:List bx:=[
 ⟨(some 7),.bin .eql (.t 4) (.c (.int .i64 4)),none⟩,
 ⟨(some 5),.mv (.t 7),none⟩]
def E2:List bx:=[
 ⟨(some 8),.bin .eql (.t 4) (.c (.int .i64 5)),none⟩,
 ⟨(some 5),.mv (.t 8),none⟩]
def E3:List bx:=[
 ⟨(some 9),.fieldAddr (.t 1) 3,none⟩,
 ⟨(some 10),.fieldAddr (.t 9) 0,none⟩,
 ⟨(some 11),.load (.t 10) 1 false,none⟩,
 ⟨(some 12),.fieldAddr (.t 1) 3,none⟩,
 ⟨(some 13),.fieldAddr (.t 12) 1,none⟩,
 ⟨(some 14),.load (.t 13) 1 false,none⟩,
 ⟨(some 15),.bin .leq (.t 11) (.t 14),none⟩,
 ⟨(some 16),.mv (.t 15),none⟩,
 ⟨(some 17),.fieldAddr (.t 1) 3,some (16,true)⟩,
 ⟨(some 18),.fieldAddr (.t 17) 0,some (16,true)⟩,
 ⟨(some 19),.load (.t 18) 1 false,some (16,true)⟩,
 ⟨(some 20),.bin .geq (.t 19) (.c (.int .i64 (-9999))),some (16,true)⟩,
 ⟨(some 21),.pick (.t 16) (.t 20) (.c (.bool false)),none⟩,
 ⟨(some 22),.mv (.t 21),none⟩,
 ⟨(some 23),.fieldAddr (.t 1) 3,some (22,true)⟩,
 ⟨(some 24),.fieldAddr (.t 23) 1,some (22,true)⟩,
 ⟨(some 25),.load (.t 24) 1 false,some (22,true)⟩,
 ⟨(some 26),.bin .leq (.t 25) (.c (.int .i64 9999)),some (22,true)⟩,
 ⟨(some 27),.pick (.t 22) (.t 26) (.c (.bool false)),none⟩,
 ⟨(some 2),.mv (.t 27),none⟩]
def E4:List bx:=[
 ⟨(some 28),.fieldAddr (.t 1) 3,none⟩,
 ⟨(some 29),.load (.t 28) 2 true,none⟩,
 ⟨(some 30),.build [(.int .i64 0),(.int .i64 0)] [(0,1,(.c (.int .i64 0))),(1,1,(.c (.int .i64 1)))],none⟩,
 ⟨(some 31),.eqA false [(0,0),(1,0)] (.t 29) (.t 30),none⟩,
 ⟨(some 2),.mv (.t 31),none⟩]
def Hn:af:=(.seq (.region false EY) (.seq (.seq (.region false EZ) (.block 0 (.seq (.seq (.region false E0) (.cond (.t 5) .skip (.seq (.region false E1) (.cond (.t 5) .skip (.region false E2))))) (.cond (.t 5) (.seq (.region false E3) .ret) .skip)))) (.seq (.region false E4) .ret)))
theorem Ju:aD Tryz.prog 243 (fun _=>false)=some (Hn,[.t 2],32,true):=by kernel_rfl
def E5:List bx:=[
 ⟨(some 4),.mv (.c (.bool false)),none⟩]
def E6:List bx:=[
 ⟨(some 6),.mv (.t 0),none⟩,
 ⟨(some 7),.len (.t 6),none⟩,
 ⟨(some 8),.mv (.t 1),none⟩,
 ⟨(some 9),.len (.t 8),none⟩,
 ⟨(some 10),.bin .neq (.t 7) (.t 9),none⟩]
def E7:List bx:=[
 ⟨(some 4),.mv (.c (.bool false)),none⟩]
def E8:List bx:=[
 ⟨(some 11),.mv (.t 0),none⟩,
 ⟨(some 12),.len (.t 11),none⟩,
 ⟨(some 13),.mv (.c (.int .i64 0)),none⟩]
def E9:List bx:=[
 ⟨(some 14),.bin .lss (.t 13) (.t 12),none⟩]
def Fb:List bx:=[
 ⟨(some 15),.mv (.t 13),none⟩,
 ⟨(some 5),.mv (.t 15),none⟩]
def Fc:List bx:=[
 ⟨(some 16),.mv (.t 0),none⟩,
 ⟨(some 17),.mv (.t 5),none⟩,
 ⟨(some 18),.indexSl (.t 16) (.t 17) 2,none⟩,
 ⟨(some 19),.load (.t 18) 2 true,none⟩,
 ⟨(some 20),.mv (.t 1),none⟩,
 ⟨(some 21),.mv (.t 5),none⟩,
 ⟨(some 22),.indexSl (.t 20) (.t 21) 2,none⟩,
 ⟨(some 23),.load (.t 22) 2 true,none⟩,
 ⟨(some 24),.eqA true [(0,0),(1,0)] (.t 19) (.t 23),none⟩]
def Fe:List bx:=[
 ⟨(some 4),.mv (.c (.bool false)),none⟩]
def Ff:List bx:=[
 ⟨(some 25),.bin .add (.t 13) (.c (.int .i64 1)),none⟩,
 ⟨(some 13),.mv (.t 25),none⟩]
def Fg:List bx:=[
 ⟨(some 4),.mv (.c (.bool true)),none⟩]
def Ho:af:=(.seq (.region false E5) (.seq (.seq (.region false E6) (.cond (.t 10) (.seq (.region false E7) .ret) .skip)) (.seq (.seq (.region false E8) (.block 0 (.loop (.seq (.region false E9) (.seq (.cond (.t 14) .skip (.exit 0)) (.seq (.block 1 (.seq (.region false Fb) (.seq (.region true Fc) (.cond (.t 24) (.seq (.region false Fe) .ret) .skip)))) (.region false Ff))))))) (.seq (.region false Fg) .ret))))
theorem Jv:aD Tryz.prog 337 (fun _=>false)=some (Ho,[.t 4],26,true):=by kernel_rfl
def zz:List (Nat×HZ):=[(10,⟨K3,[.t 6,.t 7],32⟩),(12,⟨K5,[.t 8,.t 9],26⟩),(14,⟨K7,[.t 4],26⟩),(15,⟨K9,[.t 8,.t 9],82⟩),(27,⟨Lb,[.cell 0 7 true,.cell 1 4 true,.cell 2 4 true],48⟩),(31,⟨Ld,[.t 6],47⟩),(32,⟨Lf,[.t 4],54⟩),(33,⟨Lh,[.cell 8 15 true,.t 9],32⟩),(36,⟨Lj,[.t 4,.t 5],44⟩),(37,⟨Ll,[.t 6,.t 7],79⟩),(57,⟨Ln,[.t 2],43⟩),(58,⟨Lp,[.t 4],90⟩),(59,⟨Lr,[.t 4],15⟩),(60,⟨Lt,[.t 8,.t 9],74⟩),(61,⟨Lv,[.t 4],9⟩),(62,⟨Lx,[.t 5],53⟩),(63,⟨Lz,[.t 6],29⟩),(66,⟨LB,[.t 2],4⟩),(68,⟨LD,[.t 3],17⟩),(69,⟨LG,[.t 4],50⟩),(70,⟨LI,[.t 2],6⟩),(71,⟨LK,[.t 4],105⟩),(72,⟨LM,[.t 2],31⟩),(73,⟨LO,[.t 4],41⟩),(82,⟨LQ,[.t 4],22⟩),(83,⟨LS,[.t 6],22⟩),(84,⟨LV,[],35⟩),(85,⟨LX,[.t 4,.t 5],127⟩),(86,⟨LZ,[],21⟩),(87,⟨L1,[.t 4],33⟩),(91,⟨L4,[.t 8,.t 9],74⟩),(132,⟨F4,[.t 4],76⟩),(133,⟨F5,[.t 2],24⟩),(134,⟨F6,[.t 6],36⟩),(135,⟨F7,[.t 2],105⟩),(136,⟨F8,[.t 2],37⟩),(137,⟨F9,[.t 2],123⟩),(138,⟨Ga,[.t 2],137⟩),(141,⟨Gb,[.t 4],26⟩),(143,⟨Gc,[.t 4],26⟩),(145,⟨Gd,[.t 6],15⟩),(146,⟨Ge,[.t 4],26⟩),(148,⟨Gf,[.t 4],9⟩),(150,⟨Gg,[.t 4],9⟩),(152,⟨Gi,[.t 4],17⟩),(153,⟨Gj,[.t 4],9⟩),(154,⟨Gk,[.t 3],8⟩),(155,⟨Gl,[.t 4],75⟩),(156,⟨Gm,[.t 4],20⟩),(157,⟨Gn,[.t 6],70⟩),(158,⟨Gp,[.t 4],19⟩),(161,⟨Gq,[.t 2],5⟩),(165,⟨Gr,[.t 4],12⟩),(166,⟨Gs,[.t 4],75⟩),(168,⟨Gt,[.t 4],103⟩),(175,⟨Gu,[.t 4],21⟩),(176,⟨Gv,[.t 6],143⟩),(177,⟨Gw,[.t 6],26⟩),(179,⟨Gx,[.t 4],89⟩),(181,⟨Gy,[.t 4],71⟩),(185,⟨Gz,[.t 4],8⟩),(187,⟨GA,[.t 4],17⟩),(190,⟨GB,[.t 4],19⟩),(192,⟨GC,[.t 8],44⟩),(195,⟨GD,[.t 4],9⟩),(238,⟨GG,[.t 2],6⟩),(239,⟨GH,[.t 2],6⟩),(241,⟨GI,[.t 6],15⟩),(242,⟨GJ,[.t 4],14⟩),(244,⟨GK,[.t 2],11⟩),(245,⟨GL,[.t 4],22⟩),(246,⟨GN,[.t 4],48⟩),(247,⟨GO,[.t 4],44⟩),(249,⟨GP,[.t 8],22⟩),(251,⟨GQ,[.t 4],14⟩),(253,⟨GR,[.t 4],80⟩),(258,⟨GS,[.t 4],26⟩),(261,⟨GU,[.t 4],19⟩),(262,⟨GV,[.t 6],12⟩),(263,⟨GW,[.t 4],19⟩),(267,⟨GX,[.t 6,.t 7],77⟩),(268,⟨GY,[.t 2],9⟩),(269,⟨GZ,[.t 2],9⟩),(273,⟨G0,[.t 4],14⟩),(283,⟨G1,[.t 4],11⟩),(284,⟨G2,[.t 4],18⟩),(288,⟨G3,[.t 2],8⟩),(290,⟨G4,[.t 4],52⟩),(291,⟨G5,[.t 6],28⟩),(330,⟨G6,[.t 4],9⟩),(334,⟨G7,[.t 4,.t 5],30⟩),(340,⟨G8,[.t 4],9⟩),(345,⟨G9,[.t 2],11⟩),(346,⟨Ha,[.t 4],24⟩),(347,⟨Hb,[.t 4],9⟩),(357,⟨Hc,[.t 4],18⟩),(359,⟨Hd,[.t 4],26⟩),(390,⟨He,[.t 4],19⟩),(393,⟨Hf,[.t 4,.t 5],51⟩),(396,⟨Hg,[.t 4],19⟩),(398,⟨Hh,[.t 4],9⟩),(401,⟨Hj,[.t 2,.t 3],100⟩),(402,⟨Hk,[.t 4],74⟩),(407,⟨Hl,[.t 4],22⟩),(431,⟨Hm,[.t 4],19⟩),(8,⟨O0,[.t 0],91⟩),(243,⟨Hn,[.t 2],32⟩),(337,⟨Ho,[.t 4],26⟩)]
theorem wM:∀p∈zz,∃own,aD Tryz.prog p.1 own=some (p.2.x,p.2.rs,p.2.n,true):=by
 simp only[zz,List.forall_mem_cons]
 exact⟨⟨_,K4⟩,⟨_,K6⟩,⟨_,K8⟩,⟨_,La⟩,⟨_,Lc⟩,⟨_,Le⟩,⟨_,Lg⟩,⟨_,Li⟩,⟨_,Lk⟩,⟨_,Lm⟩,⟨_,Lo⟩,⟨_,Lq⟩,⟨_,Ls⟩,⟨_,Lu⟩,⟨_,Lw⟩,⟨_,Ly⟩,⟨_,LA⟩,⟨_,LC⟩,⟨_,LF⟩,⟨_,LH⟩,⟨_,LJ⟩,⟨_,LL⟩,⟨_,LN⟩,⟨_,LP⟩,⟨_,LR⟩,⟨_,LU⟩,⟨_,LW⟩,⟨_,LY⟩,⟨_,L0⟩,⟨_,L3⟩,⟨_,L5⟩,⟨_,Ic⟩,⟨_,Ie⟩,⟨_,Ig⟩,⟨_,Ih⟩,⟨_,Ii⟩,⟨_,Ij⟩,⟨_,Ik⟩,⟨_,Il⟩,⟨_,Im⟩,⟨_,Io⟩,⟨_,Ip⟩,⟨_,Iq⟩,⟨_,Ir⟩,⟨_,It⟩,⟨_,Iu⟩,⟨_,Iv⟩,⟨_,Iw⟩,⟨_,Ix⟩,⟨_,Iy⟩,⟨_,Iz⟩,⟨_,IA⟩,⟨_,IB⟩,⟨_,IC⟩,⟨_,ID⟩,⟨_,IE⟩,⟨_,IF⟩,⟨_,IG⟩,⟨_,IH⟩,⟨_,II⟩,⟨_,IJ⟩,⟨_,IK⟩,⟨_,IL⟩,⟨_,IM⟩,⟨_,IN⟩,⟨_,IP⟩,⟨_,IQ⟩,⟨_,IS⟩,⟨_,IT⟩,⟨_,IU⟩,⟨_,IV⟩,⟨_,IW⟩,⟨_,IX⟩,⟨_,IY⟩,⟨_,IZ⟩,⟨_,I0⟩,⟨_,I1⟩,⟨_,I2⟩,⟨_,I3⟩,⟨_,I4⟩,⟨_,I5⟩,⟨_,I6⟩,⟨_,I7⟩,⟨_,I8⟩,⟨_,I9⟩,⟨_,Ja⟩,⟨_,Jb⟩,⟨_,Jc⟩,⟨_,Jd⟩,⟨_,Je⟩,⟨_,Jf⟩,⟨_,Jg⟩,⟨_,Jh⟩,⟨_,Ji⟩,⟨_,Jj⟩,⟨_,Jk⟩,⟨_,Jl⟩,⟨_,Jm⟩,⟨_,Jn⟩,⟨_,Jo⟩,⟨_,Jp⟩,⟨_,Jq⟩,⟨_,Jr⟩,⟨_,Js⟩,⟨_,Jt⟩,⟨_,Og⟩,⟨_,Ju⟩,⟨_,Jv⟩,fun _ h=>by cases h⟩
end
end Pur
end
section
namespace Pur
open Go.RowKit
abbrev ξ (n:Nat) (p:PV):Nat×Hint:=(n,{val:=some (.pv p)})
attribute [local go_sem] ξ cV ff cI bG cT jR List.map bF aN get put tmpsOf fi qu nz pK conds ev cond_true cond_false Nat.beq Nat.ble Nat.add quiet gN eb ec BD List.append_eq List.nil_append List.cons_append eD uc pJ jc jd je jf jg jh lr jK gg sR iN calm quiet.isCallK eJ List.getElem?_cons_zero List.getElem?_cons_succ cS er cellsOf List.all cH List.length_cons List.length_nil ia cG List.drop List.take List.getD Option.getD_some HR HS FV HT HU HV mV rb mW mX setAt List.set Nat.reduceAdd Nat.reduceMul dW cP refsOf cz dD scalar fu gI dw fq bI after freeze nW pO bM gw jI kQ iM kB kC iV kD kE kH kI kJ kK kL kM kN kO kP iW iX iY cY sS bytesOf cA fg aV dx fG cv dp eK still dT gH cj kh cZ jv List.isEmpty iZ ja jb Int.reduceToNat Nat.mul_one Nat.reduceSub ux gx fa eN fO look eO strip guarded nY pA ju bj iL eh mN kF kG Bool.or_false Bool.or_true Bool.and_true Bool.and_false Nat.blt rh mZ mY fF idxOf nX mG re fX bI uy
section
open Tr
def Jw:af:=(⟨_,by conv=>(lhs;reduce;try simp only[bD,Int.cast_ofNat_Int,Int.reduceNegSucc,UInt8.reduceOfNat])⟩:{x // codeOf Tryz.prog 104 (fun d=>Nat.beq d 5)=some x}).1
theorem Me:aD Tryz.prog 104 (fun d=>Nat.beq d 5)=some (Jw,[.t 2],8,true):=by kernel_rfl
def ym:af:=(⟨_,by conv=>(lhs;reduce;try simp only[bD,Int.cast_ofNat_Int,Int.reduceNegSucc,UInt8.reduceOfNat])⟩:{x // codeOf Tryz.prog 114 (fun _=>false)=some x}).1
theorem Hp:aD Tryz.prog 114 (fun _=>false)=some (ym,[.t 4],26,true):=by kernel_rfl
def Jx:af:=(⟨_,by conv=>(lhs;reduce;try simp only[bD,Int.cast_ofNat_Int,Int.reduceNegSucc,UInt8.reduceOfNat])⟩:{x // codeOf Tryz.prog 101 (fun d=>Nat.beq d 10)=some x}).1
theorem Mf:aD Tryz.prog 101 (fun d=>Nat.beq d 10)=some (Jx,[.t 2],44,true):=by kernel_rfl
def CF:af:=(⟨_,by conv=>(lhs;reduce;try simp only[bD,Int.cast_ofNat_Int,Int.reduceNegSucc,UInt8.reduceOfNat])⟩:{x // codeOf Tryz.prog 100 (fun d=>Nat.beq d 21)=some x}).1
theorem Mg:aD Tryz.prog 100 (fun d=>Nat.beq d 21)=some (CF,[.t 2],49,true):=by kernel_rfl
def CG:af:=(⟨_,by conv=>(lhs;reduce;try simp only[bD,Int.cast_ofNat_Int,Int.reduceNegSucc,UInt8.reduceOfNat])⟩:{x // codeOf Tryz.prog 102 (fun d=>Nat.beq d 7)=some x}).1
theorem Mh:aD Tryz.prog 102 (fun d=>Nat.beq d 7)=some (CG,[.t 2],28,true):=by kernel_rfl
def CH:af:=(⟨_,by conv=>(lhs;reduce;try simp only[bD,Int.cast_ofNat_Int,Int.reduceNegSucc,UInt8.reduceOfNat])⟩:{x // codeOf Tryz.prog 103 (fun d=>Nat.beq d 7)=some x}).1
theorem Mi:aD Tryz.prog 103 (fun d=>Nat.beq d 7)=some (CH,[.t 2],22,true):=by kernel_rfl
theorem aU (l:List Int):(l.map (PV.int .i64)).length=l.length:=List.length_map ..
theorem ints_at (l:List Int) (k:Nat) (h:k<l.length):(l.map (PV.int .i64))[k]?.getD default= .int .i64 (l.getD k 0):=by
 rw[List.getElem?_map,List.getD,List.getElem?_eq_getElem h];rfl
theorem pc (l:List Int) (hl:l.length≤1000000000):ah ctx 104 [aa l] (aa (an l)):=by
 have f1:=aU l;refine aj (C:=ctx) (Fn.of Me rfl) rfl ?_;unfold Jw;repeat' (first|((with_reducible first|show aI _|show aP _);simp[vb,hl,f1]<;>omega)|exact(rfl:some _=_)|((fail_if_success refine aZ ?_);refine bJ ?_;(repeat1' dsimp only[Jw,aa,go_sem]);first|refine ba ?_ ?_ rfl ?_|apply bb|apply bf|(refine bg (fun hc=>?_) fun hc=>?_<;>first|(cases hc;done)|(exfalso;simp[hl,f1]at hc<;>omega)|(try simp only[bn]at hc;try contradiction))|skip))
 exact iI rfl rfl rfl (by simp[an]) (by simp[an];omega) (by simp[an])
theorem AQ (a b:List Int) (ha:a.length≤2000000000000) (hb:b.length≤2000000000000):ah ctx 114 [aa a,aa b] (.bool (decide (a=b))):=by
 have f1:=aU a;have f2:=aU b;by_cases hl:a.length=b.length
 ·refine aj (C:=ctx) (Fn.of Hp rfl) rfl ?_;unfold ym;repeat' (first|((with_reducible first|show aI _|show aP _);simp[vb,hl]<;>omega)|exact(rfl:some _=_)|((fail_if_success refine aZ ?_);refine bJ ?_;(repeat1' dsimp only[ym,aa,go_sem]);first|refine ba ?_ ?_ rfl ?_|apply bb|apply bf|(refine bg (fun hc=>?_) fun hc=>?_<;>first|(cases hc;done)|(exfalso;simp[hl]at hc<;>omega)|(try simp only[bn]at hc;try contradiction))|skip))
  refine de a.length (fun k=>a.take k=b.take k) (fun k=>[(0,.pv (aa a)),(1,.pv (aa b)),(5,.pv (.int .i64 k))]) (fun _=>[]) (by simp) (by (repeat' (first|exact trivial|refine And.intro (by first|rfl|(simp[get,Nat.beq]<;>omega)|(dsimp only[get];congr 1<;>first|rfl|omega|(simp<;>omega))) ?_))) ⟨[],rfl⟩ (fun _=>⟨Nat.zero_le _,rfl,rfl⟩) fun k hk hP=>?_
  by_cases hlt:k<a.length
  ·have e1:=ints_at a k hlt;have e2:=ints_at b k (by omega);have h1:=bB a k 0 hlt;have h2:=bB b k 0 (by omega);have hlt2:k<b.length:=by omega
   have hne:a.getD k 0≠b.getD k 0→a≠b:=fun h e=>h (by rw[e])
   generalize a.getD k 0=x at *;generalize b.getD k 0=y at *;repeat' (first|((with_reducible show aI _);first|exact True.intro|(simp only[vb,lb];omega)|(simp only[vb,lb,e1,e2,f1,f2,hlt,hlt2,hl];and_intros<;>first|omega|(simp<;>omega))|(simp[vb,e1,e2,f1,f2,hlt,hlt2,hl]<;>omega))|((with_reducible show aP _);first|exact True.intro|((try dsimp only[go_sem]);first|(simp[vb,e1,e2,f1,f2,hlt,hlt2,hl]<;>omega)|(simp only[vb,and_true,true_implies];(repeat' (first|(with_reducible assumption)|(with_reducible apply And.intro)|intro _|((fail_if_success (with_reducible show(_:Int)≤_));assumption)))<;>first|omega|rfl|(simp only[ab,e1,e2,f1,f2,hlt,hlt2,hl];done)|(simp[Nat.mul_one,e1,e2,f1,f2,hlt,hlt2,hl]<;>omega)|(simp_all;done))))|exact(rfl:some _=_)|((fail_if_success refine aZ ?_);refine cu [ξ 20 (.int .i64 x),ξ 24 (.int .i64 y)] ?_;(repeat1' dsimp only[ym,aa,go_sem]);first|refine ba ?_ ?_ rfl ?_|apply bb|apply bf|(refine bg (fun hc=>?_) fun hc=>?_<;>first|(cases hc;done)|(exfalso;first|(simp at hc<;>omega)|(simp[e1,e2,f1,f2,hlt,hlt2,hl]at hc;done))|(try simp only[bn]at hc;try contradiction))|skip))
   ·rw[decide_eq_false (hne hc)]
   exact⟨hlt,by rw[h1,h2,hP,hc],by (repeat' (first|exact trivial|refine And.intro (by first|rfl|(simp[get,Nat.beq]<;>omega)|(dsimp only[get];congr 1<;>first|rfl|omega|(simp<;>omega))) ?_)),_,rfl⟩
  obtain rfl:k=a.length:=by omega
  rw[List.take_length,hl,List.take_length]at hP;repeat' (first|((with_reducible show aI _);first|exact True.intro|(simp only[vb,lb];omega)|(simp only[vb,lb,hlt,hl];and_intros<;>first|omega|(simp<;>omega))|(simp[vb,hlt,hl]<;>omega))|((with_reducible show aP _);first|exact True.intro|((try dsimp only[go_sem]);first|(simp[vb,hlt,hl]<;>omega)|(simp only[vb,and_true,true_implies];(repeat' (first|(with_reducible assumption)|(with_reducible apply And.intro)|intro _|((fail_if_success (with_reducible show(_:Int)≤_));assumption)))<;>first|omega|rfl|(simp only[ab,hlt,hl];done)|(simp[Nat.mul_one,hlt,hl]<;>omega)|(simp_all;done))))|exact(rfl:some _=_)|((fail_if_success refine aZ ?_);refine bJ ?_;(repeat1' dsimp only[ym,aa,go_sem]);first|refine ba ?_ ?_ rfl ?_|apply bb|apply bf|(refine bg (fun hc=>?_) fun hc=>?_<;>first|(cases hc;done)|(exfalso;first|(simp at hc<;>omega)|(simp[hlt,hl]at hc;done))|(try simp only[bn]at hc;try contradiction))|skip))
  rw[decide_eq_true hP]
 refine aj (C:=ctx) (Fn.of Hp rfl) rfl ?_;unfold ym;repeat' (first|((with_reducible first|show aI _|show aP _);simp[vb,hl]<;>omega)|exact(rfl:some _=_)|((fail_if_success refine aZ ?_);refine bJ ?_;(repeat1' dsimp only[ym,aa,go_sem]);first|refine ba ?_ ?_ rfl ?_|apply bb|apply bf|(refine bg (fun hc=>?_) fun hc=>?_<;>first|(cases hc;done)|(exfalso;simp[hl]at hc<;>omega)|(try simp only[bn]at hc;try contradiction))|skip))
 rw[decide_eq_false fun h=>hl (by rw[h])]
theorem zA (e:Ev):(eQ e).length=13+e.past.length:=by
 simp[eQ,an,bu];omega
theorem yn (e:Ev) (he:e.past.length≤100000000):ah ctx 101 [.agg (ar e)] (aa (eQ e)):=by
 have hx:=pc e.past (by omega);have f1:=aU e.past;have f2:=aU (an e.past);have f3:(an e.past).length=e.past.length+1:=rfl;refine aj (C:=ctx) (Fn.of Mf rfl) rfl ?_;unfold Jx;obtain⟨a1,a2,a3,past,a5,a6,⟨g1,g2,g3,g4⟩,a7,a8,a9⟩:=e;simp only at he hx f1 f2 f3 ⊢;unfold aa at hx;repeat' (first|((with_reducible first|show aI _|show aP _);simp[vb,he,f1,hx]<;>omega)|exact(rfl:some _=_)|((fail_if_success refine aZ ?_);refine lA [(104,fun _=>some (aa (an past)))] ?_;(repeat1' dsimp only[Jx,aa,ar,go_sem]);first|refine ba ?_ ?_ rfl ?_|apply bb|apply bf|(refine bg (fun hc=>?_) fun hc=>?_<;>first|(cases hc;done)|(exfalso;simp[he,f1,hx]at hc<;>omega)|(try simp only[bn]at hc;try contradiction))|skip))
 exact iI rfl rfl rfl (by simp[eQ,bu,an]) (by simp[eQ,bu,an];omega) (by simp[eQ,bu,an])
theorem ox (l:List Nd):(l.flatMap cX).length=l.length*4:=bW iv l
theorem mf {α:Type} {f:α→List Int} {m:Nat} (h:∀x,(f x).length=m):∀l:List α,(l.flatMap f).length=l.length*m
 |[]=>by simp
 |x::r=>by rw[List.flatMap_cons,List.length_append,h,mf h r,List.length_cons,Nat.succ_mul,Nat.add_comm]
theorem oy (o:Oc):(bT o).length=6+4*o.needs.length:=by
 simp only[bT,List.length_append,mf (f:=bu) (m:=4) (fun _=>rfl)];simp;omega
theorem uO (o:Oc) (ho:o.needs.length≤100000000):ah ctx 100 [.agg (br o)] (aa (bT o)):=by
 have f1:=ox o.needs;obtain⟨a1,a2,a3,a4,a5,l⟩:=o;simp only at ho f1 ⊢;refine aj (C:=ctx) (Fn.of Mg rfl) rfl ?_;unfold CF;repeat' (first|((with_reducible first|show aI _|show aP _);simp[vb,ho,f1]<;>omega)|exact(rfl:some _=_)|((fail_if_success refine aZ ?_);refine bJ ?_;(repeat1' dsimp only[CF,aG,br,go_sem]);first|refine ba ?_ ?_ rfl ?_|apply bb|apply bf|(refine bg (fun hc=>?_) fun hc=>?_<;>first|(cases hc;done)|(exfalso;simp[ho,f1]at hc<;>omega)|(try simp only[bn]at hc;try contradiction))|skip))
 refine de l.length (fun _=>True) (fun k=>[(1,.ptr 0 0 0),(3,.ref 1 k 0 (6+4*k)),(4,.pv (.int .i64 k))]) (fun k=>[⟨[.pv (.int .i64 a1),.pv (.int .i64 a2),.pv (.int .i64 a3),.pv (.int .i64 a4),.pv (.int .i64 a5),.pv (aG l)],0,6,61,false⟩,⟨(([a1,a2,a3,a4,a5,(l.length:Int)]++(l.take k).flatMap bu).map (.int .i64)).map .pv,k,1,3,false⟩]) trivial (by (repeat' (first|exact trivial|refine And.intro (by first|rfl|(simp[get,Nat.beq]<;>omega)|(dsimp only[get];congr 1<;>first|rfl|omega|(simp<;>omega))) ?_))) ⟨[],rfl⟩ (fun _=>⟨Nat.zero_le _,rfl,by simp[aY,cC]⟩) fun k hk _=>?_
 by_cases hlt:k<l.length
 ·have e1:=dV iv l k zn hlt;have hs:=bB l k zn hlt;have h3:((l.take k).flatMap bu).length=k*4:=by rw[mf (f:=bu) (m:=4) (fun _=>rfl),List.length_take];omega
  rw[hs];generalize (l.take k)=v at *;generalize l.getD k zn=x at *;repeat' (first|((with_reducible show aI _);first|exact True.intro|(simp only[vb,lb];omega)|(simp only[vb,lb,e1,f1,hlt,ho,h3,cX];and_intros<;>first|omega|(simp<;>omega))|(simp[vb,e1,f1,hlt,ho,h3,cX]<;>omega))|((with_reducible show aP _);first|exact True.intro|((try dsimp only[go_sem]);first|(simp[vb,e1,f1,hlt,ho,h3,cX]<;>omega)|(simp only[vb,and_true,true_implies];(repeat' (first|(with_reducible assumption)|(with_reducible apply And.intro)|intro _|((fail_if_success (with_reducible show(_:Int)≤_));assumption)))<;>first|omega|rfl|(simp only[ab,e1,f1,hlt,ho,h3,cX];done)|(simp[Nat.mul_one,e1,f1,hlt,ho,h3,cX]<;>omega)|(simp_all;done))))|exact(rfl:some _=_)|((fail_if_success refine aZ ?_);refine cu [ξ 33 (.agg (cX x))] ?_;(repeat1' dsimp only[CF,aG,cX,go_sem]);first|refine ba ?_ ?_ rfl ?_|apply bb|apply bf|(refine bg (fun hc=>?_) fun hc=>?_<;>first|(cases hc;done)|(exfalso;first|(simp at hc<;>omega)|(simp[e1,f1,hlt,ho,h3,cX]at hc;done))|(try simp only[bn]at hc;try contradiction))|skip))
  exact⟨hlt,trivial,by (repeat' (first|exact trivial|refine And.intro (by first|rfl|(simp[get,Nat.beq]<;>omega)|(dsimp only[get];congr 1<;>first|rfl|omega|(simp<;>omega))) ?_)),[⟨(cX x).map .pv,0,4,65,false⟩],by simp[bu,cX]⟩
 obtain rfl:k=l.length:=by omega
 have ht:l.take l.length=l:=List.take_of_length_le (by omega);simp only[ht];repeat' (first|((with_reducible show aI _);first|exact True.intro|(simp only[vb,lb];omega)|(simp only[vb,lb,hlt,ho];and_intros<;>first|omega|(simp<;>omega))|(simp[vb,hlt,ho]<;>omega))|((with_reducible show aP _);first|exact True.intro|((try dsimp only[go_sem]);first|(simp[vb,hlt,ho]<;>omega)|(simp only[vb,and_true,true_implies];(repeat' (first|(with_reducible assumption)|(with_reducible apply And.intro)|intro _|((fail_if_success (with_reducible show(_:Int)≤_));assumption)))<;>first|omega|rfl|(simp only[ab,hlt,ho];done)|(simp[Nat.mul_one,hlt,ho]<;>omega)|(simp_all;done))))|exact(rfl:some _=_)|((fail_if_success refine aZ ?_);refine bJ ?_;(repeat1' dsimp only[CF,aG,go_sem]);first|refine ba ?_ ?_ rfl ?_|apply bb|apply bf|(refine bg (fun hc=>?_) fun hc=>?_<;>first|(cases hc;done)|(exfalso;first|(simp at hc<;>omega)|(simp[hlt,ho]at hc;done))|(try simp only[bn]at hc;try contradiction))|skip))
 unfold aa;exact iI rfl rfl rfl (by simp[bT]) (by rw[oy]) (by simp[oy])
theorem oz (l:List Qu):(l.flatMap ei).length=l.length*2:=bW gG l
theorem Mj (l:List Qu) (k:Nat) (h:k<l.length):(l.flatMap ei)[k*2]?.getD default= .int .i64 (l.getD k zq).k:=by
 have:=db gG l k zq 0 h (by omega);rw[Nat.add_zero]at this;rw[this];rfl
theorem Ml (l:List Qu) (k:Nat) (h:k<l.length):(l.flatMap ei)[k*2+1]?.getD default= .int .i64 (l.getD k zq).c:=by
 rw[db gG l k zq 1 h (by omega)];rfl
theorem oA (l:List Qu):(cx l).length=1+2*l.length:=by
 simp only[cx,List.length_cons,mf (f:=pP) (m:=2) (fun _=>rfl)];omega
theorem uP (l:List Qu) (hl:l.length≤100000000):ah ctx 102 [aC l] (aa (cx l)):=by
 have f1:=oz l;refine aj (C:=ctx) (Fn.of Mh rfl) rfl ?_;unfold CG;repeat' (first|((with_reducible first|show aI _|show aP _);simp[vb,hl,f1]<;>omega)|exact(rfl:some _=_)|((fail_if_success refine aZ ?_);refine bJ ?_;(repeat1' dsimp only[CG,aC,go_sem]);first|refine ba ?_ ?_ rfl ?_|apply bb|apply bf|(refine bg (fun hc=>?_) fun hc=>?_<;>first|(cases hc;done)|(exfalso;simp[hl,f1]at hc<;>omega)|(try simp only[bn]at hc;try contradiction))|skip))
 refine de l.length (fun _=>True) (fun k=>[(0,.pv (aC l)),(3,.ref 0 k 0 (1+2*k)),(4,.pv (.int .i64 k))]) (fun k=>[⟨(((l.length:Int)::(l.take k).flatMap pP).map (.int .i64)).map .pv,k,1,3,false⟩]) trivial (by (repeat' (first|exact trivial|refine And.intro (by first|rfl|(simp[get,Nat.beq]<;>omega)|(dsimp only[get];congr 1<;>first|rfl|omega|(simp<;>omega))) ?_))) ⟨[],rfl⟩ (fun _=>⟨Nat.zero_le _,rfl,by simp[aY,cC]⟩) fun k hk _=>?_
 by_cases hlt:k<l.length
 ·have e1:=Mj l k hlt;have e2:=Ml l k hlt;have hs:=bB l k zq hlt;have h3:((l.take k).flatMap pP).length=k*2:=by rw[mf (f:=pP) (m:=2) (fun _=>rfl),List.length_take];omega
  rw[hs];generalize (l.take k)=v at *;generalize l.getD k zq=x at *;repeat' (first|((with_reducible show aI _);first|exact True.intro|(simp only[vb,lb];omega)|(simp only[vb,lb,e1,e2,f1,hlt,hl,h3];and_intros<;>first|omega|(simp<;>omega))|(simp[vb,e1,e2,f1,hlt,hl,h3]<;>omega))|((with_reducible show aP _);first|exact True.intro|((try dsimp only[go_sem]);first|(simp[vb,e1,e2,f1,hlt,hl,h3]<;>omega)|(simp only[vb,and_true,true_implies];(repeat' (first|(with_reducible assumption)|(with_reducible apply And.intro)|intro _|((fail_if_success (with_reducible show(_:Int)≤_));assumption)))<;>first|omega|rfl|(simp only[ab,e1,e2,f1,hlt,hl,h3];done)|(simp[Nat.mul_one,e1,e2,f1,hlt,hl,h3]<;>omega)|(simp_all;done))))|exact(rfl:some _=_)|((fail_if_success refine aZ ?_);refine cu [ξ 19 (.int .i64 x.k),ξ 24 (.int .i64 x.c)] ?_;(repeat1' dsimp only[CG,aC,go_sem]);first|refine ba ?_ ?_ rfl ?_|apply bb|apply bf|(refine bg (fun hc=>?_) fun hc=>?_<;>first|(cases hc;done)|(exfalso;first|(simp at hc<;>omega)|(simp[e1,e2,f1,hlt,hl,h3]at hc;done))|(try simp only[bn]at hc;try contradiction))|skip))
  exact⟨hlt,trivial,by (repeat' (first|exact trivial|refine And.intro (by first|rfl|(simp[get,Nat.beq]<;>omega)|(dsimp only[get];congr 1<;>first|rfl|omega|(simp<;>omega))) ?_)),[],by simp[pP]⟩
 obtain rfl:k=l.length:=by omega
 have ht:l.take l.length=l:=List.take_of_length_le (by omega);simp only[ht];repeat' (first|((with_reducible show aI _);first|exact True.intro|(simp only[vb,lb];omega)|(simp only[vb,lb,hlt,hl];and_intros<;>first|omega|(simp<;>omega))|(simp[vb,hlt,hl]<;>omega))|((with_reducible show aP _);first|exact True.intro|((try dsimp only[go_sem]);first|(simp[vb,hlt,hl]<;>omega)|(simp only[vb,and_true,true_implies];(repeat' (first|(with_reducible assumption)|(with_reducible apply And.intro)|intro _|((fail_if_success (with_reducible show(_:Int)≤_));assumption)))<;>first|omega|rfl|(simp only[ab,hlt,hl];done)|(simp[Nat.mul_one,hlt,hl]<;>omega)|(simp_all;done))))|exact(rfl:some _=_)|((fail_if_success refine aZ ?_);refine bJ ?_;(repeat1' dsimp only[CG,aC,go_sem]);first|refine ba ?_ ?_ rfl ?_|apply bb|apply bf|(refine bg (fun hc=>?_) fun hc=>?_<;>first|(cases hc;done)|(exfalso;first|(simp at hc<;>omega)|(simp[hlt,hl]at hc;done))|(try simp only[bn]at hc;try contradiction))|skip))
 unfold aa;exact iI rfl rfl rfl (by simp[cx]) (by rw[oA]) (by simp[oA])
theorem rP (l:List (List Int)):(l.map aa).length=l.length:=List.length_map ..
theorem qd (l:List (List Int)) (k:Nat) (h:k<l.length):(l.map aa)[k]?.getD default=aa (l.getD k []):=by
 rw[List.getElem?_map,List.getD,List.getElem?_eq_getElem h];rfl
def gX (l:List (List Int)):Nat:=(l.flatMap an).length
theorem AR (l:List (List Int)) (k:Nat) (h:k<l.length):gX (l.take (k+1))=gX (l.take k)+((l.getD k []).length+1):=by
 rw[gX,bB l k [] h,List.flatMap_append,List.length_append];simp[gX,an]
theorem Fh (l:List (List Int)) (k:Nat):gX (l.take k)≤gX l:=by
 have h:gX l=gX (l.take k)+gX (l.drop k):=by
  conv=>lhs;rw[←List.take_append_drop k l]
  simp only[gX,List.flatMap_append,List.length_append]
 omega
theorem yo (l:List (List Int)) (hl:l.length≤100000000) (hi:∀v∈l,v.length≤1000000000) (hw:gX l≤1300000000000):ah ctx 103 [ai l] (aa (bA l)):=by
 have f1:=rP l;refine aj (C:=ctx) (Fn.of Mi rfl) rfl ?_;unfold CH;repeat' (first|((with_reducible first|show aI _|show aP _);simp[vb,hl,f1]<;>omega)|exact(rfl:some _=_)|((fail_if_success refine aZ ?_);refine bJ ?_;(repeat1' dsimp only[CH,ai,go_sem]);first|refine ba ?_ ?_ rfl ?_|apply bb|apply bf|(refine bg (fun hc=>?_) fun hc=>?_<;>first|(cases hc;done)|(exfalso;simp[hl,f1]at hc<;>omega)|(try simp only[bn]at hc;try contradiction))|skip))
 refine de l.length (fun _=>True) (fun k=>[(0,.pv (ai l)),(3,.ref 0 k 0 (1+gX (l.take k))),(4,.pv (.int .i64 k))]) (fun k=>[⟨(((l.length:Int)::(l.take k).flatMap an).map (.int .i64)).map .pv,k,1,3,false⟩]) trivial (by (repeat' (first|exact trivial|refine And.intro (by first|rfl|(simp[get,Nat.beq]<;>omega)|(dsimp only[get];congr 1<;>first|rfl|omega|(simp<;>omega))) ?_))) ⟨[],rfl⟩ (fun _=>⟨Nat.zero_le _,rfl,by simp[aY,cC]⟩) fun k hk _=>?_
 by_cases hlt:k<l.length
 ·have e1:=qd l k hlt;have h1:=AR l k hlt;have h2:=Fh l (k+1);have hs:=bB l k [] hlt;have h3:((l.take k).flatMap an).length=gX (l.take k):=rfl;have hx:=pc (l.getD k []) (hi _ (bX hlt));rw[h1,hs];generalize gX (l.take k)=vw at *;generalize (l.take k)=v at *;generalize l.getD k []=x at *;have f2:=aU (an x);have f3:(an x).length=x.length+1:=rfl;unfold aa at hx;repeat' (first|((with_reducible show aI _);first|exact True.intro|(simp only[vb,lb];omega)|(simp only[vb,lb,e1,f1,hlt,hl,h3,hx,aa];and_intros<;>first|omega|(simp<;>omega))|(simp[vb,e1,f1,hlt,hl,h3,hx,aa]<;>omega))|((with_reducible show aP _);first|exact True.intro|((try dsimp only[go_sem]);first|(simp[vb,e1,f1,hlt,hl,h3,hx,aa]<;>omega)|(simp only[vb,and_true,true_implies];(repeat' (first|(with_reducible assumption)|(with_reducible apply And.intro)|intro _|((fail_if_success (with_reducible show(_:Int)≤_));assumption)))<;>first|omega|rfl|(simp only[ab,e1,f1,hlt,hl,h3,hx,aa];done)|(simp[Nat.mul_one,e1,f1,hlt,hl,h3,hx,aa]<;>omega)|(simp_all;done))))|exact(rfl:some _=_)|((fail_if_success refine aZ ?_);refine dS [(104,fun _=>some (aa (an x)))] [ξ 18 (aa x)] ?_;(repeat1' dsimp only[CH,ai,aa,go_sem]);first|refine ba ?_ ?_ rfl ?_|apply bb|apply bf|(refine bg (fun hc=>?_) fun hc=>?_<;>first|(cases hc;done)|(exfalso;first|(simp at hc<;>omega)|(simp[e1,f1,hlt,hl,h3,hx,aa]at hc;done))|(try simp only[bn]at hc;try contradiction))|skip))
  refine⟨hlt,trivial,by (repeat' (first|exact trivial|refine And.intro (by first|rfl|(simp[get,Nat.beq]<;>omega)|(dsimp only[get];congr 1<;>first|rfl|omega|(simp<;>omega))) ?_)),[],?_⟩;simp[List.flatMap_append]
 obtain rfl:k=l.length:=by omega
 have ht:l.take l.length=l:=List.take_of_length_le (by omega);simp only[ht];repeat' (first|((with_reducible show aI _);first|exact True.intro|(simp only[vb,lb];omega)|(simp only[vb,lb,hlt,hl];and_intros<;>first|omega|(simp<;>omega))|(simp[vb,hlt,hl]<;>omega))|((with_reducible show aP _);first|exact True.intro|((try dsimp only[go_sem]);first|(simp[vb,hlt,hl]<;>omega)|(simp only[vb,and_true,true_implies];(repeat' (first|(with_reducible assumption)|(with_reducible apply And.intro)|intro _|((fail_if_success (with_reducible show(_:Int)≤_));assumption)))<;>first|omega|rfl|(simp only[ab,hlt,hl];done)|(simp[Nat.mul_one,hlt,hl]<;>omega)|(simp_all;done))))|exact(rfl:some _=_)|((fail_if_success refine aZ ?_);refine bJ ?_;(repeat1' dsimp only[CH,ai,go_sem]);first|refine ba ?_ ?_ rfl ?_|apply bb|apply bf|(refine bg (fun hc=>?_) fun hc=>?_<;>first|(cases hc;done)|(exfalso;first|(simp at hc<;>omega)|(simp[hlt,hl]at hc;done))|(try simp only[bn]at hc;try contradiction))|skip))
 unfold aa;exact iI rfl rfl rfl (by simp[bA]) (by simp[bA,gX];omega) (by simp[bA])
end
section
open Tr
def nq:af:=(⟨_,by conv=>(lhs;reduce;try simp only[bD,Int.cast_ofNat_Int,Int.reduceNegSucc,UInt8.reduceOfNat])⟩:{x // codeOf Tryz.prog 307 (fun _=>false)=some x}).1
theorem CI:aD Tryz.prog 307 (fun _=>false)=some (nq,[],56,true):=by kernel_rfl
def az (w:Bool) (v:AV):dI:=⟨[.pv (.bool w),v,.pv (.bool false)],0,3,312,false⟩
def nB (l:List Int) (g:Nat):dI:=⟨l.map fun n=>.pv (.int .i64 n),g,1,3,false⟩
def aK (ps:List AV):dI:=⟨ps,0,1,93,false⟩
def NN (gB:Nat) (cells:List AV) (p:AV) (n:Int):Prop :=
 (∃c off,p= .iptr c off∧off<c.length∧c.getD off default= .int .i64 n)∨(∃off,p= .ptr 2 gB off∧off<cells.length∧cells.getD off .any= .pv (.int .i64 n))
def tL (gB:Nat) (cells:List AV):List AV→List Int→Prop
 |[],[]=>True
 |p::ps,n::ns=>NN gB cells p n∧tL gB cells ps ns
 |_,_=>False
theorem tL.len {gB:Nat} {cells:List AV}:∀{ps:List AV} {ns:List Int},tL gB cells ps ns→ps.length=ns.length
 |[],[],_=>rfl
 |p::ps,n::ns,h=>by simp[h.2.len]
 |[],_::_,h=>h.elim
 |_::_,[],h=>h.elim
theorem tL.at_ {gB:Nat} {cells:List AV}:∀{ps:List AV} {ns:List Int},tL gB cells ps ns→∀k,k<ns.length→NN gB cells (ps.getD k .any) (ns.getD k 0)
 |[],[],_,k,hk=>by simp at hk
 |p::ps,n::ns,h,0,_=>h.1
 |p::ps,n::ns,h,k+1,hk=>by
  have:=h.2.at_ k (by simpa using hk);simpa using this
 |[],_::_,h,_,_=>h.elim
 |_::_,[],h,_,_=>h.elim
theorem jY (l ns:List Int) (k:Nat) (hk:k<ns.length):l++ns.take (k+1)=(l++ns.take k)++[ns.getD k 0]:=by
 rw[List.append_assoc,List.append_cancel_left_eq,List.take_add_one,List.getD,List.getElem?_eq_getElem hk];rfl
theorem drop_cons {α:Type} {l:List α} {k:Nat} {x:α} {r:List α} {d:α} (h:l.drop k=x::r):k<l.length∧l.getD k d=x∧l.drop (k+1)=r:=by
 have hk:k<l.length:=by
  apply Classical.byContradiction;intro hn;rw[List.drop_eq_nil_of_le (by omega)]at h;cases h
 rw[List.drop_eq_getElem_cons hk]at h;injection h with h1 h2
 exact⟨hk,by rw[List.getD,List.getElem?_eq_getElem hk];exact h1,h2⟩
theorem Jy (l:List Int):(l.map fun n=>AV.pv (.int .i64 n)).length=l.length:=by simp
theorem zB {α:Type} (f:α→PV) (l:List α) (d m:Nat):(l.map fun x=>AV.pv (f x)).all (cC d m)=true:=by
 rw[List.all_map];exact List.all_eq_true.mpr fun x _=>by cases d<;>rfl
theorem eo (l:List Int) (m:Nat):(l.map fun n=>AV.pv (.int .i64 n)).all (cC 3 m)=true:=zB _ _ _ _
theorem mg (l:List Int) (g:Nat) (ps:List AV) (ns:List Int) (cells:List AV) (gB sB:Nat) (eB:TypeId) (hs:tL gB cells ps ns) (hl:l.length+ns.length≤1000000000) (hc:cells.all (cC 3 4)=true) (hp:ps.all (cC 3 4)=true) :
  aA ctx 307 [.ptr 0 0 0,.ref 3 0 0 ps.length] [az true (.ref 1 g 0 l.length),nB l g,⟨cells,gB,sB+1,eB,false⟩,aK ps]
   (.pv (.tup [])) [az true (.ref 1 (g+ns.length) 0 (l++ns).length),nB (l++ns) (g+ns.length),⟨cells,gB,sB+1,eB,false⟩,aK ps]:=by
 have hpl:=hs.len;have hno:=eo (l++ns) 4;refine aH (C:=ctx) (Fn.of CI rfl) rfl (by simp) rfl (by simp only[aY,az,nB,aK,List.all_cons,List.all_nil,List.length_cons,List.length_nil,Nat.zero_add,Nat.reduceAdd,hc,hp,hno];rfl) ?_;unfold nq;repeat' (first|((with_reducible first|show aI _|show aP _);simp[vb]<;>omega)|exact(rfl:some _=_)|((fail_if_success refine aZ ?_);refine bJ ?_;(repeat1' dsimp only[nq,az,nB,aK,go_sem]);first|refine ba ?_ ?_ rfl ?_|apply bb|apply bf|(refine bg (fun hc=>?_) fun hc=>?_<;>first|(cases hc;done)|(exfalso;simp at hc<;>omega)|(try simp only[bn]at hc;try contradiction))|skip))
 refine jj ns.length (fun k=>[(8,.pv (.int .i64 k)),(7,.pv (.int .i64 ps.length)),(6,.ref 3 0 0 ps.length),(0,.ptr 0 0 0)])
  (fun k=>[az true (.ref 1 (g+k) 0 (l++ns.take k).length),nB (l++ns.take k) (g+k),⟨cells,gB,sB+1,eB,false⟩,aK ps]) (by (repeat' (first|exact trivial|refine And.intro (by first|rfl|(simp[get,Nat.beq]<;>omega)|(dsimp only[get];congr 1<;>first|rfl|omega|(simp<;>omega))) ?_))) (by simp[az,nB,aK]) fun k hk=>?_
 by_cases hkn:k=ns.length
 ·subst hkn;rw[List.take_length];repeat' (first|((with_reducible first|show aI _|show aP _);simp[vb,hpl]<;>omega)|exact(rfl:some _=_)|((fail_if_success refine aZ ?_);refine bJ ?_;(repeat1' dsimp only[nq,az,nB,aK,go_sem]);first|refine ba ?_ ?_ rfl ?_|apply bb|apply bf|(refine bg (fun hc=>?_) fun hc=>?_<;>first|(cases hc;done)|(exfalso;simp[hpl]at hc<;>omega)|(try simp only[bn]at hc;try contradiction))|skip))
  exact⟨⟨trivial,rfl⟩,[],rfl⟩
 have hld:=hs.at_ k (by omega);have htk:=jY l ns k (by omega);have hlk:(l++ns.take k).length=l.length+k:=by rw[List.length_append,List.length_take];omega
 simp only[htk];generalize l++ns.take k=lk at *;generalize hp0:ps.getD k .any=p at *;generalize ns.getD k 0=n at *;have hnl:=Jy lk;rcases hld with⟨c,off,rfl,h1,h2⟩|⟨off,rfl,h1,h2⟩
 ·have h2':c[off]?.getD default=PV.int .i64 n:=by rw[←h2,List.getD]
  repeat' (first|((with_reducible first|show aI _|show aP _);simp[vb,hpl,hp0,h2,h2',hnl]<;>omega)|exact(rfl:some _=_)|((fail_if_success refine aZ ?_);refine cu [(11,{val:=some (.iptr c off)}),ξ 40 (.int .i64 n)] ?_;(repeat1' dsimp only[nq,az,nB,aK,go_sem]);first|refine ba ?_ ?_ rfl ?_|apply bb|apply bf|(refine bg (fun hc=>?_) fun hc=>?_<;>first|(cases hc;done)|(exfalso;simp[hpl,hp0,h2,h2',hnl]at hc<;>omega)|(try simp only[bn]at hc;try contradiction))|skip))
  ·exact⟨by simpa using hp0,trivial⟩
  refine⟨by omega,by (repeat' (first|exact trivial|refine And.intro (by first|rfl|(simp[get,Nat.beq]<;>omega)|(dsimp only[get];congr 1<;>first|rfl|omega|(simp<;>omega))) ?_)),?_⟩;simp[Nat.add_assoc]
 have h2':cells[off]?.getD AV.any= .pv (.int .i64 n):=by rw[←h2,List.getD]
 repeat' (first|((with_reducible first|show aI _|show aP _);simp[vb,hpl,hp0,h2,h2',hnl]<;>omega)|exact(rfl:some _=_)|((fail_if_success refine aZ ?_);refine cu [(11,{val:=some (.ptr 2 gB off)}),ξ 40 (.int .i64 n)] ?_;(repeat1' dsimp only[nq,az,nB,aK,go_sem]);first|refine ba ?_ ?_ rfl ?_|apply bb|apply bf|(refine bg (fun hc=>?_) fun hc=>?_<;>first|(cases hc;done)|(exfalso;simp[hpl,hp0,h2,h2',hnl]at hc<;>omega)|(try simp only[bn]at hc;try contradiction))|skip))
 ·exact⟨by simpa using hp0,trivial⟩
 refine⟨by omega,by (repeat' (first|exact trivial|refine And.intro (by first|rfl|(simp[get,Nat.beq]<;>omega)|(dsimp only[get];congr 1<;>first|rfl|omega|(simp<;>omega))) ?_)),?_⟩;simp[Nat.add_assoc]
def uQ:List AV→List Nat→List Int→List AV
 |c,o::os,n::ns=>uQ (c.set o (.pv (.int .i64 n))) os ns
 |c,_,_=>c
theorem zD {m:Nat}:∀(os:List Nat) (ns:List Int) (c:List AV),c.all (cC 3 m)=true→(uQ c os ns).all (cC 3 m)=true
 |[],ns,c,h=>by cases ns<;>exact h
 |o::os,[],c,h=>h
 |o::os,n::ns,c,h=>by
  rw[uQ];refine zD os ns _ (List.all_eq_true.mpr fun x hx=>?_);rcases List.mem_or_eq_of_mem_set hx with hx|rfl
  ·exact List.all_eq_true.mp h x hx
  rfl
theorem jZ (rest ns:List Int) (os:List Nat) (cells:List AV) (gB sB:Nat) (eB:TypeId) (hl:ns.length=os.length) (ho:∀o∈os,o<cells.length) (hr:ns.length+rest.length≤1000000000) (hc:cells.all (cC 3 3)=true) :
  aA ctx 307 [.ptr 0 0 0,.ref 2 0 0 os.length] [az false (.pv (aa (ns++rest))),⟨cells,gB,sB+1,eB,false⟩,aK (os.map fun o=>.ptr 1 gB o)]
   (.pv (.tup [])) [az false (.pv (aa rest)),⟨uQ cells os ns,gB,sB+1,eB,false⟩,aK (os.map fun o=>.ptr 1 gB o)]:=by
 have hc':=zD os ns cells hc;have hp:(os.map fun o=>AV.ptr 1 gB o).all (cC 3 3)=true:=by
  rw[List.all_map];exact List.all_eq_true.mpr fun _ _=>rfl
 refine aH (C:=ctx) (Fn.of CI rfl) rfl (by simp) rfl (by simp only[aY,az,aK,List.all_cons,List.all_nil,List.length_cons,List.length_nil,Nat.zero_add,Nat.reduceAdd,hc',hp];rfl) ?_;unfold nq;repeat' (first|((with_reducible first|show aI _|show aP _);simp[vb]<;>omega)|exact(rfl:some _=_)|((fail_if_success refine aZ ?_);refine bJ ?_;(repeat1' dsimp only[nq,az,nB,aK,go_sem]);first|refine ba ?_ ?_ rfl ?_|apply bb|apply bf|(refine bg (fun hc=>?_) fun hc=>?_<;>first|(cases hc;done)|(exfalso;simp at hc<;>omega)|(try simp only[bn]at hc;try contradiction))|skip))
 refine vY (σ:=Nat×List AV×List Nat×List Int) (fun s=>os.drop s.1=s.2.2.1∧s.2.2.2.length=s.2.2.1.length∧uQ s.2.1 s.2.2.1 s.2.2.2=uQ cells os ns∧(∀o∈s.2.2.1,o<s.2.1.length)∧s.2.2.2.length≤ns.length∧s.1≤os.length)
  (fun s=>[(8,.pv (.int .i64 s.1)),(7,.pv (.int .i64 os.length)),(6,.ref 2 0 0 os.length),(0,.ptr 0 0 0)])
  (fun s=>[az false (.pv (aa (s.2.2.2++rest))),⟨s.2.1,gB,sB+1,eB,false⟩,aK (os.map fun o=>.ptr 1 gB o)]) (fun s=>s.2.2.1.length) (0,cells,os,ns) ⟨rfl,hl,rfl,ho,Nat.le_refl _,Nat.zero_le _⟩ (by (repeat' (first|exact trivial|refine And.intro (by first|rfl|(simp[get,Nat.beq]<;>omega)|(dsimp only[get];congr 1<;>first|rfl|omega|(simp<;>omega))) ?_))) (by simp[az,aK]) ?_
 rintro⟨k,cl,os',ns'⟩ ⟨h1,h2,h3,h4,h5,h6⟩;simp only at h1 h2 h3 h4 h5 h6 ⊢;cases os' with
 |nil =>
  obtain rfl:ns'=[]:=List.eq_nil_of_length_eq_zero h2;have hk:k=os.length:=by
   have:=congrArg List.length h1;simp at this;omega
  subst hk;simp only[uQ]at h3;subst h3;repeat' (first|((with_reducible first|show aI _|show aP _);simp[vb]<;>omega)|exact(rfl:some _=_)|((fail_if_success refine aZ ?_);refine bJ ?_;(repeat1' dsimp only[nq,az,nB,aK,go_sem]);first|refine ba ?_ ?_ rfl ?_|apply bb|apply bf|(refine bg (fun hc=>?_) fun hc=>?_<;>first|(cases hc;done)|(exfalso;simp at hc<;>omega)|(try simp only[bn]at hc;try contradiction))|skip))
  exact⟨⟨trivial,rfl⟩,[],rfl⟩
 |cons o os' =>
  obtain⟨n,ns',rfl⟩:∃n r,ns'=n::r:=by
   cases ns' with
   |nil=>simp at h2
   |cons n r=>exact⟨n,r,rfl⟩
  obtain⟨h7,h8,h9⟩:=drop_cons (d:=0) h1;have hp0:(os.map fun o=>AV.ptr 1 gB o).getD k .any= .ptr 1 gB o:=by
   rw[List.getD,List.getElem?_map,List.getElem?_eq_getElem h7];rw[List.getD,List.getElem?_eq_getElem h7]at h8;simp only[Option.getD_some]at h8;simp[h8]
  have hp0':(os.map fun o=>AV.ptr 1 gB o)[k]?.getD AV.any= .ptr 1 gB o:=by rw[←hp0,List.getD]
  have hol:=h4 o List.mem_cons_self;have hpl:(os.map fun o=>AV.ptr 1 gB o).length=os.length:=by simp
  have hi:=aU (n::ns'++rest);have hsl:PV.sl ((n::ns'++rest).length-1) (((n::ns'++rest).map (PV.int .i64)).drop 1)=aa (ns'++rest):=rfl;simp only[List.length_cons,List.cons_append]at *;repeat' (first|((with_reducible first|show aI _|show aP _);simp[vb,hpl,hp0,hp0']<;>omega)|exact(rfl:some _=_)|((fail_if_success refine aZ ?_);refine cu [(11,{val:=some (.ptr 1 gB o)}),ξ 19 (.int .i64 n),ξ 24 (aa (ns'++rest))] ?_;(repeat1' dsimp only[nq,az,nB,aK,aa,go_sem]);first|refine ba ?_ ?_ rfl ?_|apply bb|apply bf|(refine bg (fun hc=>?_) fun hc=>?_<;>first|(cases hc;done)|(exfalso;simp[hpl,hp0,hp0']at hc<;>omega)|(try simp only[bn]at hc;try contradiction))|skip))
  ·exact⟨by simpa using hp0,trivial⟩
  ·refine⟨?_,rfl,trivial⟩;rw[show((((ns'++rest).length+1:Nat):Int)-1).toNat=(ns'++rest).length by omega,Nat.mul_one,List.take_of_length_le (by simp)]
  refine⟨(k+1,cl.set o (.pv (.int .i64 n)),os',ns'),by simp only;omega,⟨h9,by simp only;omega,h3,fun o' ho'=>?_,by simp only;omega,by simp only;omega⟩,by (repeat' (first|exact trivial|refine And.intro (by first|rfl|(simp[get,Nat.beq]<;>omega)|(dsimp only[get];congr 1<;>first|rfl|omega|(simp<;>omega))) ?_)),?_⟩
  ·simp only[List.length_set];exact h4 o' (List.mem_cons_of_mem _ ho')
  trace_state
  rfl
end
section
open Tr
def Fj:af:=(⟨_,by conv=>(lhs;reduce;try simp only[bD,Int.cast_ofNat_Int,Int.reduceNegSucc,UInt8.reduceOfNat])⟩:{x // codeOf Tryz.prog 413 (fun d=>Nat.beq d 20)=some x}).1
theorem CJ:aD Tryz.prog 413 (fun d=>Nat.beq d 20)=some (Fj,[],22,true):=by kernel_rfl
def Jz:af:=(⟨_,by conv=>(lhs;reduce;try simp only[bD,Int.cast_ofNat_Int,Int.reduceNegSucc,UInt8.reduceOfNat])⟩:{x // codeOf Tryz.prog 372 (fun d=>Nat.beq d 11)=some x}).1
theorem Hq:aD Tryz.prog 372 (fun d=>Nat.beq d 11)=some (Jz,[],13,true):=by kernel_rfl
def CK:af:=(⟨_,by conv=>(lhs;reduce;try simp only[bD,Int.cast_ofNat_Int,Int.reduceNegSucc,UInt8.reduceOfNat])⟩:{x // codeOf Tryz.prog 415 (fun d=>Nat.beq d 5)=some x}).1
theorem Hr:aD Tryz.prog 415 (fun d=>Nat.beq d 5)=some (CK,[],7,true):=by kernel_rfl
def tB (cs:List PV) (g s:Nat) (e:TypeId):dI:=⟨cs.map .pv,g,s+1,e,false⟩
theorem dH (cs:List PV) (g s:Nat) (e:TypeId) (au:List Nat) (n:Nat):ry au n (tB cs g s e)=tB cs g s e:=by simp[tB,ry,sP,Function.comp_def]
theorem Hs (l:List Int) (g:Nat) (au:List Nat) (n:Nat):ry au n (nB l g)=nB l g:=by simp[nB,ry,sP,Function.comp_def]
theorem aM (cs:List PV) (m:Nat):(cs.map AV.pv).all (cC 3 m)=true:=zB (fun x=>x) cs 3 m
theorem ka {cs:List PV} {k:Nat} {v:PV} (h:k<cs.length) (hv:cs.getD k default=v):(cs.map AV.pv).getD k .any= .pv v:=by
 rw[List.getD,List.getElem?_eq_getElem h]at hv;rw[List.getD,List.getElem?_map,List.getElem?_eq_getElem h];simp only[Option.getD_some]at hv;simp[hv]
theorem qe {cs:List PV} {g k:Nat} {n:Int} (h:k<cs.length) (hv:cs.getD k default= .int .i64 n):NN g (cs.map .pv) (.ptr 2 g k) n:=.inr ⟨k,rfl,by simpa using h,ka h hv⟩
theorem JA {cells:List AV} {cs:List PV} {g k:Nat} {n:Int} (h:k<cs.length) (hv:cs.getD k default= .int .i64 n):NN g cells (.iptr cs k) n:=.inl ⟨cs,k,rfl,h,hv⟩
def gQ:List PV→List Nat→List Int→List PV
 |c,o::os,n::ns=>gQ (c.set o (.int .i64 n)) os ns
 |c,_,_=>c
theorem ef:∀(os:List Nat) (ns:List Int) (c:List PV),uQ (c.map .pv) os ns=(gQ c os ns).map .pv
 |[],ns,c=>by cases ns<;>rfl
 |o::os,[],c=>rfl
 |o::os,n::ns,c=>by
  rw[uQ,gQ,←ef os ns,List.map_set]
theorem wN {μ:AM} {b:Nat} {k:dI} (h:μ[b]?=some k):μ.set b k=μ:=by
 obtain⟨hb,rfl⟩:=List.getElem?_eq_some_iff.mp h;exact List.set_getElem_self hb
theorem rQ {au:List Nat} {n:Nat}:∀(ks:List Nat) (E μ:AM) (i:Nat),oc au n μ i ks E→vo au n ks E μ=μ
 |[],[],μ,_,_=>by simp[vo]
 |b::bs,k::E,μ,i,h=>by
  rw[vo,wN h.1];exact rQ bs E μ (i+1) h.2
 |[],_::_,_,_,h=>h.elim
 |_::_,[],_,_,h=>h.elim
theorem dh {f:FuncId} {al:List AV} {l l':List Int} {g g':Nat} {E:AM} (h:aA ctx f al (az true (.ref 1 g 0 l.length)::nB l g::E) (.pv (.tup [])) (az true (.ref 1 g' 0 l'.length)::nB l' g'::E)) (ks:List Nat) (rest:AM)
  (hnd:(0::1::ks).Nodup) (hlt:∀b∈ks,b<rest.length+2) (hE:∀P N,oc (0::1::ks) (rest.length+2) (P::N::rest) 2 ks E) (hok:E.all (fun k=>k.cells.all (cC 3 (E.length+2)))=true) (hal:∀a∈al,cC 3 (E.length+2) a=true) (hkl:ks.length=E.length) :
  aA ctx f (al.map (sP (0::1::ks) (rest.length+2) 3)) (az true (.ref 1 g 0 l.length)::nB l g::rest) (.pv (.tup [])) (az true (.ref 1 g' 0 l'.length)::nB l' g'::rest):=by
 have h1:=h.frame (0::1::ks) (az true (.ref 1 g 0 l.length)::nB l g::rest) hnd (fun b hb=>by
  rcases List.mem_cons.mp hb with rfl|hb
  ·simp
  rcases List.mem_cons.mp hb with rfl|hb
  ·simp
  simpa using hlt b hb) ⟨rfl,by rw[Hs];rfl,hE _ _⟩ (by
  simp only[aY,List.all_cons,List.length_cons,Bool.and_eq_true];exact⟨by simp[az,cC,Nat.blt],eo _ _,hok⟩) (by simpa using hal) (by simp[hkl])
 have h2:vo (0::1::ks) (rest.length+2) (0::1::ks) (az true (.ref 1 g' 0 l'.length)::nB l' g'::E) (az true (.ref 1 g 0 l.length)::nB l g::rest)=az true (.ref 1 g' 0 l'.length)::nB l' g'::rest:=by
  rw[vo,vo];have e1:ry (0::1::ks) (rest.length+2) (az true (.ref 1 g' 0 l'.length))=az true (.ref 1 g' 0 l'.length):=rfl;rw[e1,Hs];exact rQ ks E _ 2 (hE _ _)
 rw[←h2];exact h1
theorem cW {f:FuncId} {al:List AV} {r r':List Int} {cs cs':List PV} {gB sB:Nat} {eB:TypeId} {E:AM} (h:aA ctx f al (az false (.pv (aa r))::tB cs gB sB eB::E) (.pv (.tup [])) (az false (.pv (aa r'))::tB cs' gB sB eB::E)) (j:Nat) (ks:List Nat) (rest:AM)
  (hnd:(0::(j+1)::ks).Nodup) (hj:rest[j]?=some (tB cs gB sB eB)) (hlt:∀b∈ks,b<rest.length+1) (hE:∀P T,oc (0::(j+1)::ks) (rest.length+1) (P::rest.set j T) 2 ks E) (hok:E.all (fun k=>k.cells.all (cC 3 (E.length+2)))=true) (hal:∀a∈al,cC 3 (E.length+2) a=true) (hkl:ks.length=E.length) :
  aA ctx f (al.map (sP (0::(j+1)::ks) (rest.length+1) 3)) (az false (.pv (aa r))::rest) (.pv (.tup [])) (az false (.pv (aa r'))::rest.set j (tB cs' gB sB eB)):=by
 have hjl:j<rest.length:=(List.getElem?_eq_some_iff.mp hj).1;have h0:∀P,oc (0::(j+1)::ks) (rest.length+1) (P::rest) 2 ks E:=fun P=>by
  have:=hE P (tB cs gB sB eB);rwa [wN hj]at this
 have h1:=h.frame (0::(j+1)::ks) (az false (.pv (aa r))::rest) hnd (fun b hb=>by
  rcases List.mem_cons.mp hb with rfl|hb
  ·simp
  rcases List.mem_cons.mp hb with rfl|hb
  ·simp only[List.length_cons];omega
  simpa using hlt b hb) ⟨rfl,by rw[dH];exact hj,h0 _⟩ (by
  simp only[aY,List.all_cons,List.length_cons,Bool.and_eq_true];exact⟨by simp[az,cC,Nat.blt],aM _ _,hok⟩) (by simpa using hal) (by simp[hkl])
 have h2:vo (0::(j+1)::ks) (rest.length+1) (0::(j+1)::ks) (az false (.pv (aa r'))::tB cs' gB sB eB::E) (az false (.pv (aa r))::rest)=az false (.pv (aa r'))::rest.set j (tB cs' gB sB eB):=by
  rw[vo,vo];have e1:ry (0::(j+1)::ks) (rest.length+1) (az false (.pv (aa r')))=az false (.pv (aa r')):=rfl;rw[e1,dH];exact rQ ks E _ 2 (hE _ _)
 rw[←h2];exact h1
def xB (p:Nat):dI:=⟨[.ptr p 0 0],0,1,310,false⟩
theorem JB (l:List Int) (g:Nat) (c:List PV) (off:Nat) (a b d e:Int) (cs:List PV) (gB sB:Nat) (eB:TypeId) (ho:off+4≤c.length) (h0:c.getD (off+0) default= .int .i64 a) (h1:c.getD (off+1) default= .int .i64 b) (h2:c.getD (off+2) default= .int .i64 d) (h3:c.getD (off+3) default= .int .i64 e) (hl:l.length+4≤1000000000) :
  aA ctx 413 [.ptr 0 0 0,.iptr c off] [az true (.ref 1 (g) 0 (l).length),nB (l) (g),tB cs gB sB eB] (.pv (.tup [])) [az true (.ref 1 (g+4) 0 (l++[a,b,d,e]).length),nB (l++[a,b,d,e]) (g+4),tB cs gB sB eB]:=by
 have hn:=mg l g [.iptr c (off+0),.iptr c (off+1),.iptr c (off+2),.iptr c (off+3)] [a,b,d,e] (cs.map .pv) gB sB eB ⟨JA (by omega) h0,JA (by omega) h1,JA (by omega) h2,JA (by omega) h3,trivial⟩ (by simpa using hl) (aM _ _) (by rfl);have hno:=eo (l++[a,b,d,e]) 3;have hcc:=aM cs 3;refine aH (C:=ctx) (Fn.of CJ rfl) rfl (by simp) rfl (by simp only[aY,az,nB,tB,xB,List.all_cons,List.all_nil,List.length_cons,List.length_nil,Nat.zero_add,Nat.reduceAdd,hcc,hno];rfl) ?_;unfold Fj
 refine cw (T:=[]) (H:=[(21,{val:=some (.pv (.tup [])),mem:=some ([az true (.ref 1 (g+4) 0 (l++[a,b,d,e]).length),nB (l++[a,b,d,e]) (g+4),tB cs gB sB eB,aK [.iptr c (off+0),.iptr c (off+1),.iptr c (off+2),.iptr c (off+3)]])})]) (by rfl) ?_;dsimp only[bk,az,nB,aK,tB,xB,go_sem];try dsimp only[az,nB,aK,tB,xB,go_sem]
 refine⟨(by simp[vb]<;>omega),?_,?_⟩
 ·exact⟨hn,trivial⟩
 exact⟨⟨trivial,rfl⟩,_,rfl⟩
theorem Fk (l:List Int) (g:Nat) (c:List PV) (off:Nat) (a b:Int) (cs:List PV) (gB sB:Nat) (eB:TypeId) (ho:off+2≤c.length) (h0:c.getD (off+0) default= .int .i64 a) (h1:c.getD (off+1) default= .int .i64 b) (hl:l.length+2≤1000000000) :
  aA ctx 372 [.ptr 0 0 0,.iptr c off] [az true (.ref 1 (g) 0 (l).length),nB (l) (g),tB cs gB sB eB] (.pv (.tup [])) [az true (.ref 1 (g+2) 0 (l++[a,b]).length),nB (l++[a,b]) (g+2),tB cs gB sB eB]:=by
 have hn:=mg l g [.iptr c (off+0),.iptr c (off+1)] [a,b] (cs.map .pv) gB sB eB ⟨JA (by omega) h0,JA (by omega) h1,trivial⟩ (by simpa using hl) (aM _ _) (by rfl);have hno:=eo (l++[a,b]) 3;have hcc:=aM cs 3;refine aH (C:=ctx) (Fn.of Hq rfl) rfl (by simp) rfl (by simp only[aY,az,nB,tB,xB,List.all_cons,List.all_nil,List.length_cons,List.length_nil,Nat.zero_add,Nat.reduceAdd,hcc,hno];rfl) ?_;unfold Jz
 refine cw (T:=[]) (H:=[(12,{val:=some (.pv (.tup [])),mem:=some ([az true (.ref 1 (g+2) 0 (l++[a,b]).length),nB (l++[a,b]) (g+2),tB cs gB sB eB,aK [.iptr c (off+0),.iptr c (off+1)]])})]) (by rfl) ?_;dsimp only[bk,az,nB,aK,tB,xB,go_sem];try dsimp only[az,nB,aK,tB,xB,go_sem]
 refine⟨(by simp[vb]<;>omega),?_,?_⟩
 ·exact⟨hn,trivial⟩
 exact⟨⟨trivial,rfl⟩,_,rfl⟩
theorem Ht (l:List Int) (g:Nat) (c:List PV) (off:Nat) (a:Int) (cs:List PV) (gB sB:Nat) (eB:TypeId) (ho:off+1≤c.length) (h0:c.getD (off+0) default= .int .i64 a) (hl:l.length+1≤1000000000) :
  aA ctx 415 [.iptr c off,.ptr 3 0 0] [az true (.ref 1 (g) 0 (l).length),nB (l) (g),tB cs gB sB eB,xB 0] (.pv (.tup [])) [az true (.ref 1 (g+1) 0 (l++[a]).length),nB (l++[a]) (g+1),tB cs gB sB eB,xB 0]:=by
 have hn:=mg l g [.iptr c (off+0)] [a] (cs.map .pv) gB sB eB ⟨JA (by omega) h0,trivial⟩ (by simpa using hl) (aM _ _) (by rfl);have hn:=dh (E:=[tB cs gB sB eB,aK [.iptr c (off+0)]]) hn [2,4] [tB cs gB sB eB,xB 0,aK [.iptr c (off+0)]] (by decide) (by simp) (fun _ _=>⟨by rw[dH];rfl,rfl,trivial⟩) (by simp only[List.all_cons,List.all_nil,tB,aM];rfl) (by simp[cC,Nat.blt]) rfl;have hno:=eo (l++[a]) 4;have hcc:=aM cs 4
 refine aH (C:=ctx) (Fn.of Hr rfl) rfl (by simp) rfl (by simp only[aY,az,nB,tB,xB,List.all_cons,List.all_nil,List.length_cons,List.length_nil,Nat.zero_add,Nat.reduceAdd,hcc,hno];rfl) ?_;unfold CK;repeat' (first|((with_reducible first|show aI _|show aP _);simp[vb]<;>omega)|exact(rfl:some _=_)|((fail_if_success refine aZ ?_);refine cu [(6,{val:=some (.pv (.tup [])),mem:=some ([az true (.ref 1 (g+1) 0 (l++[a]).length),nB (l++[a]) (g+1),tB cs gB sB eB,xB 0,aK [.iptr c (off+0)]])})] ?_;(repeat1' dsimp only[CK,az,nB,aK,tB,xB,go_sem]);first|refine ba ?_ ?_ rfl ?_|apply bb|apply bf|(refine bg (fun hc=>?_) fun hc=>?_<;>first|(cases hc;done)|(exfalso;simp at hc<;>omega)|(try simp only[bn]at hc;try contradiction))|skip))
 ·exact⟨hn,trivial⟩
 exact⟨⟨trivial,rfl⟩,_,rfl⟩
theorem JC (l:List Int) (g:Nat) (off:Nat) (a b d e:Int) (cs:List PV) (gB sB:Nat) (eB:TypeId) (ho:off+4≤cs.length) (h0:cs.getD (off+0) default= .int .i64 a) (h1:cs.getD (off+1) default= .int .i64 b) (h2:cs.getD (off+2) default= .int .i64 d) (h3:cs.getD (off+3) default= .int .i64 e) (hl:l.length+4≤1000000000) :
  aA ctx 413 [.ptr 0 0 0,.ptr 2 gB off] [az true (.ref 1 (g) 0 (l).length),nB (l) (g),tB cs gB sB eB] (.pv (.tup [])) [az true (.ref 1 (g+4) 0 (l++[a,b,d,e]).length),nB (l++[a,b,d,e]) (g+4),tB cs gB sB eB]:=by
 have hn:=mg l g [.ptr 2 gB (off+0),.ptr 2 gB (off+1),.ptr 2 gB (off+2),.ptr 2 gB (off+3)] [a,b,d,e] (cs.map .pv) gB sB eB ⟨qe (by omega) h0,qe (by omega) h1,qe (by omega) h2,qe (by omega) h3,trivial⟩ (by simpa using hl) (aM _ _) (by rfl);have hno:=eo (l++[a,b,d,e]) 3;have hcc:=aM cs 3;refine aH (C:=ctx) (Fn.of CJ rfl) rfl (by simp) rfl (by simp only[aY,az,nB,tB,xB,List.all_cons,List.all_nil,List.length_cons,List.length_nil,Nat.zero_add,Nat.reduceAdd,hcc,hno];rfl) ?_;unfold Fj
 refine cw (T:=[]) (H:=[(21,{val:=some (.pv (.tup [])),mem:=some ([az true (.ref 1 (g+4) 0 (l++[a,b,d,e]).length),nB (l++[a,b,d,e]) (g+4),tB cs gB sB eB,aK [.ptr 2 gB (off+0),.ptr 2 gB (off+1),.ptr 2 gB (off+2),.ptr 2 gB (off+3)]])})]) (by rfl) ?_;dsimp only[bk,az,nB,aK,tB,xB,go_sem];try dsimp only[az,nB,aK,tB,xB,go_sem]
 refine⟨(by simp[vb]<;>omega),?_,?_⟩
 ·exact⟨hn,trivial⟩
 exact⟨⟨trivial,rfl⟩,_,rfl⟩
theorem Hu (r:List Int) (off:Nat) (a b d e:Int) (cs:List PV) (gB sB:Nat) (eB:TypeId) (ho:off+4≤cs.length) (hl:r.length+4≤1000000000) :
  aA ctx 413 [.ptr 0 0 0,.ptr 1 gB off] [az false (.pv (aa ([a,b,d,e]++r))),tB (cs) gB sB eB] (.pv (.tup [])) [az false (.pv (aa (r))),tB (gQ cs [off+0,off+1,off+2,off+3] [a,b,d,e]) gB sB eB]:=by
 have hn:=jZ r [a,b,d,e] [off+0,off+1,off+2,off+3] (cs.map .pv) gB sB eB rfl (by simp;omega) (by simp;omega) (aM _ _);rw[ef]at hn;have hcc:=aM (gQ cs [off+0,off+1,off+2,off+3] [a,b,d,e]) 2;refine aH (C:=ctx) (Fn.of CJ rfl) rfl (by simp) rfl (by simp only[aY,az,tB,xB,List.all_cons,List.all_nil,List.length_cons,List.length_nil,Nat.zero_add,Nat.reduceAdd,hcc];rfl) ?_;unfold Fj
 refine cw (T:=[]) (H:=[(21,{val:=some (.pv (.tup [])),mem:=some ([az false (.pv (aa r)),tB (gQ cs [off+0,off+1,off+2,off+3] [a,b,d,e]) gB sB eB,aK [.ptr 1 gB (off+0),.ptr 1 gB (off+1),.ptr 1 gB (off+2),.ptr 1 gB (off+3)]])})]) (by rfl) ?_;dsimp only[bk,az,nB,aK,tB,xB,go_sem];try dsimp only[az,nB,aK,tB,xB,go_sem]
 refine⟨(by simp[vb]<;>omega),?_,?_⟩
 ·exact⟨hn,trivial⟩
 exact⟨⟨trivial,rfl⟩,_,rfl⟩
theorem JD (r:List Int) (off:Nat) (a b:Int) (cs:List PV) (gB sB:Nat) (eB:TypeId) (ho:off+2≤cs.length) (hl:r.length+2≤1000000000) :
  aA ctx 372 [.ptr 0 0 0,.ptr 1 gB off] [az false (.pv (aa ([a,b]++r))),tB (cs) gB sB eB] (.pv (.tup [])) [az false (.pv (aa (r))),tB (gQ cs [off+0,off+1] [a,b]) gB sB eB]:=by
 have hn:=jZ r [a,b] [off+0,off+1] (cs.map .pv) gB sB eB rfl (by simp;omega) (by simp;omega) (aM _ _);rw[ef]at hn;have hcc:=aM (gQ cs [off+0,off+1] [a,b]) 2;refine aH (C:=ctx) (Fn.of Hq rfl) rfl (by simp) rfl (by simp only[aY,az,tB,xB,List.all_cons,List.all_nil,List.length_cons,List.length_nil,Nat.zero_add,Nat.reduceAdd,hcc];rfl) ?_;unfold Jz;refine cw (T:=[]) (H:=[(12,{val:=some (.pv (.tup [])),mem:=some ([az false (.pv (aa r)),tB (gQ cs [off+0,off+1] [a,b]) gB sB eB,aK [.ptr 1 gB (off+0),.ptr 1 gB (off+1)]])})]) (by rfl) ?_
 dsimp only[bk,az,nB,aK,tB,xB,go_sem];try dsimp only[az,nB,aK,tB,xB,go_sem]
 refine⟨(by simp[vb]<;>omega),?_,?_⟩
 ·exact⟨hn,trivial⟩
 exact⟨⟨trivial,rfl⟩,_,rfl⟩
theorem Oh (r:List Int) (off:Nat) (a:Int) (cs:List PV) (gB sB:Nat) (eB:TypeId) (ho:off+1≤cs.length) (hl:r.length+1≤1000000000) :
  aA ctx 415 [.ptr 1 gB off,.ptr 2 0 0] [az false (.pv (aa ([a]++r))),tB (cs) gB sB eB,xB 0] (.pv (.tup [])) [az false (.pv (aa (r))),tB (gQ cs [off+0] [a]) gB sB eB,xB 0]:=by
 have hn:=jZ r [a] [off+0] (cs.map .pv) gB sB eB rfl (by simp;omega) (by simp;omega) (aM _ _);rw[ef]at hn;have hn:=cW (E:=[aK [.ptr 1 gB (off+0)]]) (cs:=cs) (cs':=gQ cs [off+0] [a]) hn 0 [3] [tB cs gB sB eB,xB 0,aK [.ptr 1 gB (off+0)]] (by decide) rfl (by simp) (fun _ _=>⟨rfl,trivial⟩) (by rfl) (by simp[cC,Nat.blt]) rfl;have hcc:=aM (gQ cs [off+0] [a]) 3;refine aH (C:=ctx) (Fn.of Hr rfl) rfl (by simp) rfl (by simp only[aY,az,tB,xB,List.all_cons,List.all_nil,List.length_cons,List.length_nil,Nat.zero_add,Nat.reduceAdd,hcc];rfl) ?_;unfold CK;repeat' (first|((with_reducible first|show aI _|show aP _);simp[vb]<;>omega)|exact(rfl:some _=_)|((fail_if_success refine aZ ?_);refine cu [(6,{val:=some (.pv (.tup [])),mem:=some ([az false (.pv (aa r)),tB (gQ cs [off+0] [a]) gB sB eB,xB 0,aK [.ptr 1 gB (off+0)]])})] ?_;(repeat1' dsimp only[CK,az,nB,aK,tB,xB,go_sem]);first|refine ba ?_ ?_ rfl ?_|apply bb|apply bf|(refine bg (fun hc=>?_) fun hc=>?_<;>first|(cases hc;done)|(exfalso;simp at hc<;>omega)|(try simp only[bn]at hc;try contradiction))|skip))
 ·exact⟨hn,trivial⟩
 exact⟨⟨trivial,rfl⟩,_,rfl⟩
end
section
open Tr
def aT (out:Nat→List Int) (n i:Nat):List Int:=(n:Int)::(List.range i).flatMap out
theorem cO (out:Nat→List Int) (n i:Nat):aT out n (i+1)=aT out n i++out i:=by
 simp[aT,List.range_succ]
theorem mA (out:Nat→List Int) (n:Nat):∀(d i:Nat),(aT out n i).length≤(aT out n (i+d)).length
 |0,_=>Nat.le_refl _
 |d+1,i=>by
  have:=mA out n d i;rw[←Nat.add_assoc,cO,List.length_append];omega
def nr:af:=(⟨_,by conv=>(lhs;reduce;try simp only[bD,Int.cast_ofNat_Int,Int.reduceNegSucc,UInt8.reduceOfNat])⟩:{x // codeOf Tryz.prog 414 (fun d=>Nat.beq d 13)=some x}).1
theorem zE:aD Tryz.prog 414 (fun d=>Nat.beq d 13)=some (nr,[],61,true):=by kernel_rfl
def rR:af:=(⟨_,by conv=>(lhs;reduce;try simp only[bD,Int.cast_ofNat_Int,Int.reduceNegSucc,UInt8.reduceOfNat])⟩:{x // codeOf Tryz.prog 412 (fun d=>Nat.beq d 13)=some x}).1
theorem CL:aD Tryz.prog 412 (fun d=>Nat.beq d 13)=some (rR,[],61,true):=by kernel_rfl
def rS:af:=(⟨_,by conv=>(lhs;reduce;try simp only[bD,Int.cast_ofNat_Int,Int.reduceNegSucc,UInt8.reduceOfNat])⟩:{x // codeOf Tryz.prog 371 (fun d=>Nat.beq d 13)=some x}).1
theorem CM:aD Tryz.prog 371 (fun d=>Nat.beq d 13)=some (rS,[],61,true):=by kernel_rfl
def rT:af:=(⟨_,by conv=>(lhs;reduce;try simp only[bD,Int.cast_ofNat_Int,Int.reduceNegSucc,UInt8.reduceOfNat])⟩:{x // codeOf Tryz.prog 373 (fun d=>Nat.beq d 13)=some x}).1
theorem CN:aD Tryz.prog 373 (fun d=>Nat.beq d 13)=some (rT,[],61,true):=by kernel_rfl
theorem AS (l:List Int) (g:Nat) (off:Nat) (cs:List PV) (gB sB:Nat) (eB:TypeId) (n:Nat) (cells:List PV) (out:Nat→List Int) (ho:off<cs.length) (hv:cs.getD off default= .sl n cells) (hcl:cells.length=n*1) (hl:l.length+(aT out n n).length≤1000000000) (hn:n≤1000000000)
  (he:∀(i:Nat),i<n→∀(l:List Int) (g:Nat),l.length+(out i).length≤1000000000→aA ctx 415 [.iptr cells (i*1),.ptr 3 0 0] [az true (.ref 1 (g) 0 (l).length),nB (l) (g),tB cs gB sB eB,xB 0] (.pv (.tup [])) [az true (.ref 1 (g+(out i).length) 0 (l++out i).length),nB (l++out i) (g+(out i).length),tB cs gB sB eB,xB 0]) :
  aA ctx 414 [.ptr 0 0 0,.ptr 2 gB off,.fn 415 [.ptr 3 0 0]] [az true (.ref 1 (g) 0 (l).length),nB (l) (g),tB cs gB sB eB,xB 0] (.pv (.tup [])) [az true (.ref 1 (g+(aT out n n).length) 0 (l++aT out n n).length),nB (l++aT out n n) (g+(aT out n n).length),tB cs gB sB eB,xB 0]:=by
 have hnum:=mg l g [.ptr 2 0 0] [(n:Int)] [.pv (.int .i64 n)] 0 0 3 ⟨.inr ⟨0,rfl,by simp,rfl⟩,trivial⟩ (by simp[aT]at hl ⊢;omega) (by rfl) (by rfl);have hnum:=dh (E:=[⟨[.pv (.int .i64 n)],0,1,3,false⟩,aK [.ptr 2 0 0]]) hnum [4,5] [tB cs gB sB eB,xB 0,⟨[.pv (.int .i64 n)],0,1,3,false⟩,aK [.ptr 4 0 0]] (by decide) (by simp) (fun _ _=>⟨rfl,rfl,trivial⟩) (by rfl) (by simp[cC,Nat.blt]) rfl;have hld:(cs.map AV.pv).getD off .any= .pv (.sl n cells):=ka ho hv;have hld':(cs.map AV.pv)[off]?.getD AV.any= .pv (.sl n cells):=by rw[←hld,List.getD]
 have hcsl:(cs.map AV.pv).length=cs.length:=by simp
 have hno:=eo (l++aT out n n) 4;have hcc:=aM cs 4;have hb:=mA out n;refine aH (C:=ctx) (Fn.of zE rfl) rfl (by simp) rfl (by simp only[aY,az,nB,tB,xB,List.all_cons,List.all_nil,List.length_cons,List.length_nil,Nat.zero_add,Nat.reduceAdd,hcc,hno];rfl) ?_;unfold nr;repeat' (first|((with_reducible first|show aI _|show aP _);simp[vb,hld,hld',hcsl]<;>omega)|exact(rfl:some _=_)|((fail_if_success refine aZ ?_);refine cu [ξ 10 (.sl n cells),(14,{val:=some (.pv (.tup [])),mem:=some ([az true (.ref 1 (g+1) 0 (l++[(n:Int)]).length),nB (l++[(n:Int)]) (g+1),tB cs gB sB eB,xB 0,⟨[.pv (.int .i64 n)],0,1,3,false⟩,aK [.ptr 4 0 0]])}),ξ 48 (.sl n cells)] ?_;(repeat1' dsimp only[nr,az,nB,aK,tB,xB,go_sem]);first|refine ba ?_ ?_ rfl ?_|apply bb|apply bf|(refine bg (fun hc=>?_) fun hc=>?_<;>first|(cases hc;done)|(exfalso;simp[hld,hld',hcsl]at hc<;>omega)|(try simp only[bn]at hc;try contradiction))|skip))
 all_goals first|exact⟨hld',trivial⟩|exact⟨hnum,trivial⟩|skip
 refine jj n (fun k=>[(50,.pv (.int .i64 k)),(49,.pv (.int .i64 n)),(0,.ptr 0 0 0),(1,.ptr 2 gB off),(2,.fn 415 [.ptr 3 0 0])]) (fun k=>[az true (.ref 1 (g+(aT out n k).length) 0 (l++aT out n k).length),nB (l++aT out n k) (g+(aT out n k).length),tB cs gB sB eB,xB 0,⟨[.pv (.int .i64 n)],0,1,3,false⟩,aK [.ptr 4 0 0]]) (by (repeat' (first|exact trivial|refine And.intro (by first|rfl|(simp[get,Nat.beq]<;>omega)|(dsimp only[get];congr 1<;>first|rfl|omega|(simp<;>omega))) ?_))) (by simp[az,nB,aK,tB,xB,aT]) fun k hk=>?_
 by_cases hkn:k=n
 ·subst hkn;repeat' (first|((with_reducible first|show aI _|show aP _);simp[vb]<;>omega)|exact(rfl:some _=_)|((fail_if_success refine aZ ?_);refine bJ ?_;(repeat1' dsimp only[nr,az,nB,aK,tB,xB,go_sem]);first|refine ba ?_ ?_ rfl ?_|apply bb|apply bf|(refine bg (fun hc=>?_) fun hc=>?_<;>first|(cases hc;done)|(exfalso;simp at hc<;>omega)|(try simp only[bn]at hc;try contradiction))|skip))
  exact⟨⟨trivial,rfl⟩,_,rfl⟩
 have hek:=he k (by omega) (l++aT out n k) (g+(aT out n k).length) (by
  have:=hb (n-(k+1)) (k+1);rw[show k+1+(n-(k+1))=n by omega,cO,List.length_append]at this;rw[List.length_append];omega)
 have hek:=dh (E:=[tB cs gB sB eB,xB 0]) hek [2,3] [tB cs gB sB eB,xB 0,⟨[.pv (.int .i64 n)],0,1,3,false⟩,aK [.ptr 4 0 0]] (by decide) (by simp) (fun _ _=>⟨by rw[dH];rfl,rfl,trivial⟩) (by simp only[List.all_cons,List.all_nil,tB,aM];rfl) (by simp[cC,Nat.blt]) rfl;rw[List.append_assoc,←cO,Nat.add_assoc,←List.length_append,←cO]at hek;repeat' (first|((with_reducible first|show aI _|show aP _);simp[vb,hld,hld',hcsl]<;>omega)|exact(rfl:some _=_)|((fail_if_success refine aZ ?_);refine cu [ξ 56 (.sl n cells),(59,{val:=some (.pv (.tup [])),mem:=some ([az true (.ref 1 (g+(aT out n (k+1)).length) 0 (l++aT out n (k+1)).length),nB (l++aT out n (k+1)) (g+(aT out n (k+1)).length),tB cs gB sB eB,xB 0,⟨[.pv (.int .i64 n)],0,1,3,false⟩,aK [.ptr 4 0 0]])})] ?_;(repeat1' dsimp only[nr,az,nB,aK,tB,xB,go_sem]);first|refine ba ?_ ?_ rfl ?_|apply bb|apply bf|(refine bg (fun hc=>?_) fun hc=>?_<;>first|(cases hc;done)|(exfalso;simp[hld,hld',hcsl]at hc<;>omega)|(try simp only[bn]at hc;try contradiction))|skip))
 ·first|exact⟨hek,trivial⟩|exact⟨hek,hld',trivial⟩
 refine⟨by omega,by (repeat' (first|exact trivial|refine And.intro (by first|rfl|(simp[get,Nat.beq]<;>omega)|(dsimp only[get];congr 1<;>first|rfl|omega|(simp<;>omega))) ?_)),?_⟩;first|rfl
theorem AT (l:List Int) (g:Nat) (c:List PV) (off:Nat) (cs:List PV) (gB sB:Nat) (eB:TypeId) (n:Nat) (cells:List PV) (out:Nat→List Int) (ho:off<c.length) (hv:c.getD off default= .sl n cells) (hcl:cells.length=n*1) (hl:l.length+(aT out n n).length≤1000000000) (hn:n≤1000000000)
  (he:∀(i:Nat),i<n→∀(l:List Int) (g:Nat),l.length+(out i).length≤1000000000→aA ctx 415 [.iptr cells (i*1),.ptr 3 0 0] [az true (.ref 1 (g) 0 (l).length),nB (l) (g),tB cs gB sB eB,xB 0] (.pv (.tup [])) [az true (.ref 1 (g+(out i).length) 0 (l++out i).length),nB (l++out i) (g+(out i).length),tB cs gB sB eB,xB 0]) :
  aA ctx 414 [.ptr 0 0 0,.iptr c off,.fn 415 [.ptr 3 0 0]] [az true (.ref 1 (g) 0 (l).length),nB (l) (g),tB cs gB sB eB,xB 0] (.pv (.tup [])) [az true (.ref 1 (g+(aT out n n).length) 0 (l++aT out n n).length),nB (l++aT out n n) (g+(aT out n n).length),tB cs gB sB eB,xB 0]:=by
 have hnum:=mg l g [.ptr 2 0 0] [(n:Int)] [.pv (.int .i64 n)] 0 0 3 ⟨.inr ⟨0,rfl,by simp,rfl⟩,trivial⟩ (by simp[aT]at hl ⊢;omega) (by rfl) (by rfl);have hnum:=dh (E:=[⟨[.pv (.int .i64 n)],0,1,3,false⟩,aK [.ptr 2 0 0]]) hnum [4,5] [tB cs gB sB eB,xB 0,⟨[.pv (.int .i64 n)],0,1,3,false⟩,aK [.ptr 4 0 0]] (by decide) (by simp) (fun _ _=>⟨rfl,rfl,trivial⟩) (by rfl) (by simp[cC,Nat.blt]) rfl;have hld:c[off]?.getD default= .sl n cells:=by rw[←hv,List.getD]
 have hld':AV.pv (c[off]?.getD default)=AV.pv (PV.sl n cells):=congrArg AV.pv hld;have hno:=eo (l++aT out n n) 4;have hcc:=aM cs 4;have hb:=mA out n;refine aH (C:=ctx) (Fn.of zE rfl) rfl (by simp) rfl (by simp only[aY,az,nB,tB,xB,List.all_cons,List.all_nil,List.length_cons,List.length_nil,Nat.zero_add,Nat.reduceAdd,hcc,hno];rfl) ?_;unfold nr;repeat' (first|((with_reducible first|show aI _|show aP _);simp[vb,hld,hv]<;>omega)|exact(rfl:some _=_)|((fail_if_success refine aZ ?_);refine cu [ξ 10 (.sl n cells),(14,{val:=some (.pv (.tup [])),mem:=some ([az true (.ref 1 (g+1) 0 (l++[(n:Int)]).length),nB (l++[(n:Int)]) (g+1),tB cs gB sB eB,xB 0,⟨[.pv (.int .i64 n)],0,1,3,false⟩,aK [.ptr 4 0 0]])}),ξ 48 (.sl n cells)] ?_;(repeat1' dsimp only[nr,az,nB,aK,tB,xB,go_sem]);first|refine ba ?_ ?_ rfl ?_|apply bb|apply bf|(refine bg (fun hc=>?_) fun hc=>?_<;>first|(cases hc;done)|(exfalso;simp[hld,hv]at hc<;>omega)|(try simp only[bn]at hc;try contradiction))|skip))
 all_goals first|exact⟨hld',trivial⟩|exact⟨hnum,trivial⟩|skip
 refine jj n (fun k=>[(50,.pv (.int .i64 k)),(49,.pv (.int .i64 n)),(0,.ptr 0 0 0),(1,.iptr c off),(2,.fn 415 [.ptr 3 0 0])]) (fun k=>[az true (.ref 1 (g+(aT out n k).length) 0 (l++aT out n k).length),nB (l++aT out n k) (g+(aT out n k).length),tB cs gB sB eB,xB 0,⟨[.pv (.int .i64 n)],0,1,3,false⟩,aK [.ptr 4 0 0]]) (by (repeat' (first|exact trivial|refine And.intro (by first|rfl|(simp[get,Nat.beq]<;>omega)|(dsimp only[get];congr 1<;>first|rfl|omega|(simp<;>omega))) ?_))) (by simp[az,nB,aK,tB,xB,aT]) fun k hk=>?_
 by_cases hkn:k=n
 ·subst hkn;repeat' (first|((with_reducible first|show aI _|show aP _);simp[vb]<;>omega)|exact(rfl:some _=_)|((fail_if_success refine aZ ?_);refine bJ ?_;(repeat1' dsimp only[nr,az,nB,aK,tB,xB,go_sem]);first|refine ba ?_ ?_ rfl ?_|apply bb|apply bf|(refine bg (fun hc=>?_) fun hc=>?_<;>first|(cases hc;done)|(exfalso;simp at hc<;>omega)|(try simp only[bn]at hc;try contradiction))|skip))
  exact⟨⟨trivial,rfl⟩,_,rfl⟩
 have hek:=he k (by omega) (l++aT out n k) (g+(aT out n k).length) (by
  have:=hb (n-(k+1)) (k+1);rw[show k+1+(n-(k+1))=n by omega,cO,List.length_append]at this;rw[List.length_append];omega)
 have hek:=dh (E:=[tB cs gB sB eB,xB 0]) hek [2,3] [tB cs gB sB eB,xB 0,⟨[.pv (.int .i64 n)],0,1,3,false⟩,aK [.ptr 4 0 0]] (by decide) (by simp) (fun _ _=>⟨by rw[dH];rfl,rfl,trivial⟩) (by simp only[List.all_cons,List.all_nil,tB,aM];rfl) (by simp[cC,Nat.blt]) rfl;rw[List.append_assoc,←cO,Nat.add_assoc,←List.length_append,←cO]at hek;repeat' (first|((with_reducible first|show aI _|show aP _);simp[vb,hld,hv]<;>omega)|exact(rfl:some _=_)|((fail_if_success refine aZ ?_);refine cu [ξ 56 (.sl n cells),(59,{val:=some (.pv (.tup [])),mem:=some ([az true (.ref 1 (g+(aT out n (k+1)).length) 0 (l++aT out n (k+1)).length),nB (l++aT out n (k+1)) (g+(aT out n (k+1)).length),tB cs gB sB eB,xB 0,⟨[.pv (.int .i64 n)],0,1,3,false⟩,aK [.ptr 4 0 0]])})] ?_;(repeat1' dsimp only[nr,az,nB,aK,tB,xB,go_sem]);first|refine ba ?_ ?_ rfl ?_|apply bb|apply bf|(refine bg (fun hc=>?_) fun hc=>?_<;>first|(cases hc;done)|(exfalso;simp[hld,hv]at hc<;>omega)|(try simp only[bn]at hc;try contradiction))|skip))
 ·first|exact⟨hek,trivial⟩|exact⟨hek,hld',trivial⟩
 refine⟨by omega,by (repeat' (first|exact trivial|refine And.intro (by first|rfl|(simp[get,Nat.beq]<;>omega)|(dsimp only[get];congr 1<;>first|rfl|omega|(simp<;>omega))) ?_)),?_⟩;first|rfl
theorem AU (l:List Int) (g:Nat) (off:Nat) (cs:List PV) (gB sB:Nat) (eB:TypeId) (n:Nat) (cells:List PV) (out:Nat→List Int) (ho:off<cs.length) (hv:cs.getD off default= .sl n cells) (hcl:cells.length=n*4) (hl:l.length+(aT out n n).length≤1000000000) (hn:n≤1000000000)
  (he:∀(i:Nat),i<n→∀(l:List Int) (g:Nat),l.length+(out i).length≤1000000000→aA ctx 413 [.ptr 0 0 0,.iptr cells (i*4)] [az true (.ref 1 (g) 0 (l).length),nB (l) (g),tB cs gB sB eB] (.pv (.tup [])) [az true (.ref 1 (g+(out i).length) 0 (l++out i).length),nB (l++out i) (g+(out i).length),tB cs gB sB eB]) :
  aA ctx 412 [.ptr 0 0 0,.ptr 2 gB off,.bm 413 [.ptr 0 0 0]] [az true (.ref 1 (g) 0 (l).length),nB (l) (g),tB cs gB sB eB] (.pv (.tup [])) [az true (.ref 1 (g+(aT out n n).length) 0 (l++aT out n n).length),nB (l++aT out n n) (g+(aT out n n).length),tB cs gB sB eB]:=by
 have hnum:=mg l g [.ptr 2 0 0] [(n:Int)] [.pv (.int .i64 n)] 0 0 3 ⟨.inr ⟨0,rfl,by simp,rfl⟩,trivial⟩ (by simp[aT]at hl ⊢;omega) (by rfl) (by rfl);have hnum:=dh (E:=[⟨[.pv (.int .i64 n)],0,1,3,false⟩,aK [.ptr 2 0 0]]) hnum [3,4] [tB cs gB sB eB,⟨[.pv (.int .i64 n)],0,1,3,false⟩,aK [.ptr 3 0 0]] (by decide) (by simp) (fun _ _=>⟨rfl,rfl,trivial⟩) (by rfl) (by simp[cC,Nat.blt]) rfl;have hld:(cs.map AV.pv).getD off .any= .pv (.sl n cells):=ka ho hv;have hld':(cs.map AV.pv)[off]?.getD AV.any= .pv (.sl n cells):=by rw[←hld,List.getD]
 have hcsl:(cs.map AV.pv).length=cs.length:=by simp
 have hno:=eo (l++aT out n n) 3;have hcc:=aM cs 3;have hb:=mA out n;refine aH (C:=ctx) (Fn.of CL rfl) rfl (by simp) rfl (by simp only[aY,az,nB,tB,xB,List.all_cons,List.all_nil,List.length_cons,List.length_nil,Nat.zero_add,Nat.reduceAdd,hcc,hno];rfl) ?_;unfold rR;repeat' (first|((with_reducible first|show aI _|show aP _);simp[vb,hld,hld',hcsl]<;>omega)|exact(rfl:some _=_)|((fail_if_success refine aZ ?_);refine cu [ξ 10 (.sl n cells),(14,{val:=some (.pv (.tup [])),mem:=some ([az true (.ref 1 (g+1) 0 (l++[(n:Int)]).length),nB (l++[(n:Int)]) (g+1),tB cs gB sB eB,⟨[.pv (.int .i64 n)],0,1,3,false⟩,aK [.ptr 3 0 0]])}),ξ 48 (.sl n cells)] ?_;(repeat1' dsimp only[rR,az,nB,aK,tB,xB,go_sem]);first|refine ba ?_ ?_ rfl ?_|apply bb|apply bf|(refine bg (fun hc=>?_) fun hc=>?_<;>first|(cases hc;done)|(exfalso;simp[hld,hld',hcsl]at hc<;>omega)|(try simp only[bn]at hc;try contradiction))|skip))
 all_goals first|exact⟨hld',trivial⟩|exact⟨hnum,trivial⟩|skip
 refine jj n (fun k=>[(50,.pv (.int .i64 k)),(49,.pv (.int .i64 n)),(0,.ptr 0 0 0),(1,.ptr 2 gB off),(2,.bm 413 [.ptr 0 0 0])]) (fun k=>[az true (.ref 1 (g+(aT out n k).length) 0 (l++aT out n k).length),nB (l++aT out n k) (g+(aT out n k).length),tB cs gB sB eB,⟨[.pv (.int .i64 n)],0,1,3,false⟩,aK [.ptr 3 0 0]]) (by (repeat' (first|exact trivial|refine And.intro (by first|rfl|(simp[get,Nat.beq]<;>omega)|(dsimp only[get];congr 1<;>first|rfl|omega|(simp<;>omega))) ?_))) (by simp[az,nB,aK,tB,xB,aT]) fun k hk=>?_
 by_cases hkn:k=n
 ·subst hkn;repeat' (first|((with_reducible first|show aI _|show aP _);simp[vb]<;>omega)|exact(rfl:some _=_)|((fail_if_success refine aZ ?_);refine bJ ?_;(repeat1' dsimp only[rR,az,nB,aK,tB,xB,go_sem]);first|refine ba ?_ ?_ rfl ?_|apply bb|apply bf|(refine bg (fun hc=>?_) fun hc=>?_<;>first|(cases hc;done)|(exfalso;simp at hc<;>omega)|(try simp only[bn]at hc;try contradiction))|skip))
  exact⟨⟨trivial,rfl⟩,_,rfl⟩
 have hek:=he k (by omega) (l++aT out n k) (g+(aT out n k).length) (by
  have:=hb (n-(k+1)) (k+1);rw[show k+1+(n-(k+1))=n by omega,cO,List.length_append]at this;rw[List.length_append];omega)
 have hek:=dh (E:=[tB cs gB sB eB]) hek [2] [tB cs gB sB eB,⟨[.pv (.int .i64 n)],0,1,3,false⟩,aK [.ptr 3 0 0]] (by decide) (by simp) (fun _ _=>⟨by rw[dH];rfl,trivial⟩) (by simp only[List.all_cons,List.all_nil,tB,aM];rfl) (by simp[cC,Nat.blt]) rfl;rw[List.append_assoc,←cO,Nat.add_assoc,←List.length_append,←cO]at hek;repeat' (first|((with_reducible first|show aI _|show aP _);simp[vb,hld,hld',hcsl]<;>omega)|exact(rfl:some _=_)|((fail_if_success refine aZ ?_);refine cu [ξ 56 (.sl n cells),(59,{val:=some (.pv (.tup [])),mem:=some ([az true (.ref 1 (g+(aT out n (k+1)).length) 0 (l++aT out n (k+1)).length),nB (l++aT out n (k+1)) (g+(aT out n (k+1)).length),tB cs gB sB eB,⟨[.pv (.int .i64 n)],0,1,3,false⟩,aK [.ptr 3 0 0]])})] ?_;(repeat1' dsimp only[rR,az,nB,aK,tB,xB,go_sem]);first|refine ba ?_ ?_ rfl ?_|apply bb|apply bf|(refine bg (fun hc=>?_) fun hc=>?_<;>first|(cases hc;done)|(exfalso;simp[hld,hld',hcsl]at hc<;>omega)|(try simp only[bn]at hc;try contradiction))|skip))
 ·first|exact⟨hek,trivial⟩|exact⟨hek,hld',trivial⟩
 refine⟨by omega,by (repeat' (first|exact trivial|refine And.intro (by first|rfl|(simp[get,Nat.beq]<;>omega)|(dsimp only[get];congr 1<;>first|rfl|omega|(simp<;>omega))) ?_)),?_⟩;first|rfl
theorem AX (l:List Int) (g:Nat) (off:Nat) (cs:List PV) (gB sB:Nat) (eB:TypeId) (n:Nat) (cells:List PV) (out:Nat→List Int) (ho:off<cs.length) (hv:cs.getD off default= .sl n cells) (hcl:cells.length=n*2) (hl:l.length+(aT out n n).length≤1000000000) (hn:n≤1000000000)
  (he:∀(i:Nat),i<n→∀(l:List Int) (g:Nat),l.length+(out i).length≤1000000000→aA ctx 372 [.ptr 0 0 0,.iptr cells (i*2)] [az true (.ref 1 (g) 0 (l).length),nB (l) (g),tB cs gB sB eB] (.pv (.tup [])) [az true (.ref 1 (g+(out i).length) 0 (l++out i).length),nB (l++out i) (g+(out i).length),tB cs gB sB eB]) :
  aA ctx 371 [.ptr 0 0 0,.ptr 2 gB off,.bm 372 [.ptr 0 0 0]] [az true (.ref 1 (g) 0 (l).length),nB (l) (g),tB cs gB sB eB] (.pv (.tup [])) [az true (.ref 1 (g+(aT out n n).length) 0 (l++aT out n n).length),nB (l++aT out n n) (g+(aT out n n).length),tB cs gB sB eB]:=by
 have hnum:=mg l g [.ptr 2 0 0] [(n:Int)] [.pv (.int .i64 n)] 0 0 3 ⟨.inr ⟨0,rfl,by simp,rfl⟩,trivial⟩ (by simp[aT]at hl ⊢;omega) (by rfl) (by rfl);have hnum:=dh (E:=[⟨[.pv (.int .i64 n)],0,1,3,false⟩,aK [.ptr 2 0 0]]) hnum [3,4] [tB cs gB sB eB,⟨[.pv (.int .i64 n)],0,1,3,false⟩,aK [.ptr 3 0 0]] (by decide) (by simp) (fun _ _=>⟨rfl,rfl,trivial⟩) (by rfl) (by simp[cC,Nat.blt]) rfl;have hld:(cs.map AV.pv).getD off .any= .pv (.sl n cells):=ka ho hv;have hld':(cs.map AV.pv)[off]?.getD AV.any= .pv (.sl n cells):=by rw[←hld,List.getD]
 have hcsl:(cs.map AV.pv).length=cs.length:=by simp
 have hno:=eo (l++aT out n n) 3;have hcc:=aM cs 3;have hb:=mA out n;refine aH (C:=ctx) (Fn.of CM rfl) rfl (by simp) rfl (by simp only[aY,az,nB,tB,xB,List.all_cons,List.all_nil,List.length_cons,List.length_nil,Nat.zero_add,Nat.reduceAdd,hcc,hno];rfl) ?_;unfold rS;repeat' (first|((with_reducible first|show aI _|show aP _);simp[vb,hld,hld',hcsl]<;>omega)|exact(rfl:some _=_)|((fail_if_success refine aZ ?_);refine cu [ξ 10 (.sl n cells),(14,{val:=some (.pv (.tup [])),mem:=some ([az true (.ref 1 (g+1) 0 (l++[(n:Int)]).length),nB (l++[(n:Int)]) (g+1),tB cs gB sB eB,⟨[.pv (.int .i64 n)],0,1,3,false⟩,aK [.ptr 3 0 0]])}),ξ 48 (.sl n cells)] ?_;(repeat1' dsimp only[rS,az,nB,aK,tB,xB,go_sem]);first|refine ba ?_ ?_ rfl ?_|apply bb|apply bf|(refine bg (fun hc=>?_) fun hc=>?_<;>first|(cases hc;done)|(exfalso;simp[hld,hld',hcsl]at hc<;>omega)|(try simp only[bn]at hc;try contradiction))|skip))
 all_goals first|exact⟨hld',trivial⟩|exact⟨hnum,trivial⟩|skip
 refine jj n (fun k=>[(50,.pv (.int .i64 k)),(49,.pv (.int .i64 n)),(0,.ptr 0 0 0),(1,.ptr 2 gB off),(2,.bm 372 [.ptr 0 0 0])]) (fun k=>[az true (.ref 1 (g+(aT out n k).length) 0 (l++aT out n k).length),nB (l++aT out n k) (g+(aT out n k).length),tB cs gB sB eB,⟨[.pv (.int .i64 n)],0,1,3,false⟩,aK [.ptr 3 0 0]]) (by (repeat' (first|exact trivial|refine And.intro (by first|rfl|(simp[get,Nat.beq]<;>omega)|(dsimp only[get];congr 1<;>first|rfl|omega|(simp<;>omega))) ?_))) (by simp[az,nB,aK,tB,xB,aT]) fun k hk=>?_
 by_cases hkn:k=n
 ·subst hkn;repeat' (first|((with_reducible first|show aI _|show aP _);simp[vb]<;>omega)|exact(rfl:some _=_)|((fail_if_success refine aZ ?_);refine bJ ?_;(repeat1' dsimp only[rS,az,nB,aK,tB,xB,go_sem]);first|refine ba ?_ ?_ rfl ?_|apply bb|apply bf|(refine bg (fun hc=>?_) fun hc=>?_<;>first|(cases hc;done)|(exfalso;simp at hc<;>omega)|(try simp only[bn]at hc;try contradiction))|skip))
  exact⟨⟨trivial,rfl⟩,_,rfl⟩
 have hek:=he k (by omega) (l++aT out n k) (g+(aT out n k).length) (by
  have:=hb (n-(k+1)) (k+1);rw[show k+1+(n-(k+1))=n by omega,cO,List.length_append]at this;rw[List.length_append];omega)
 have hek:=dh (E:=[tB cs gB sB eB]) hek [2] [tB cs gB sB eB,⟨[.pv (.int .i64 n)],0,1,3,false⟩,aK [.ptr 3 0 0]] (by decide) (by simp) (fun _ _=>⟨by rw[dH];rfl,trivial⟩) (by simp only[List.all_cons,List.all_nil,tB,aM];rfl) (by simp[cC,Nat.blt]) rfl;rw[List.append_assoc,←cO,Nat.add_assoc,←List.length_append,←cO]at hek;repeat' (first|((with_reducible first|show aI _|show aP _);simp[vb,hld,hld',hcsl]<;>omega)|exact(rfl:some _=_)|((fail_if_success refine aZ ?_);refine cu [ξ 56 (.sl n cells),(59,{val:=some (.pv (.tup [])),mem:=some ([az true (.ref 1 (g+(aT out n (k+1)).length) 0 (l++aT out n (k+1)).length),nB (l++aT out n (k+1)) (g+(aT out n (k+1)).length),tB cs gB sB eB,⟨[.pv (.int .i64 n)],0,1,3,false⟩,aK [.ptr 3 0 0]])})] ?_;(repeat1' dsimp only[rS,az,nB,aK,tB,xB,go_sem]);first|refine ba ?_ ?_ rfl ?_|apply bb|apply bf|(refine bg (fun hc=>?_) fun hc=>?_<;>first|(cases hc;done)|(exfalso;simp[hld,hld',hcsl]at hc<;>omega)|(try simp only[bn]at hc;try contradiction))|skip))
 ·first|exact⟨hek,trivial⟩|exact⟨hek,hld',trivial⟩
 refine⟨by omega,by (repeat' (first|exact trivial|refine And.intro (by first|rfl|(simp[get,Nat.beq]<;>omega)|(dsimp only[get];congr 1<;>first|rfl|omega|(simp<;>omega))) ?_)),?_⟩;first|rfl
theorem AY (l:List Int) (g:Nat) (off:Nat) (cs:List PV) (gB sB:Nat) (eB:TypeId) (n:Nat) (cells:List PV) (out:Nat→List Int) (ho:off<cs.length) (hv:cs.getD off default= .sl n cells) (hcl:cells.length=n*1) (hl:l.length+(aT out n n).length≤1000000000) (hn:n≤1000000000)
  (he:∀(i:Nat),i<n→∀(l:List Int) (g:Nat),l.length+(out i).length≤1000000000→aA ctx 374 [.ptr 0 0 0,.iptr cells (i*1)] [az true (.ref 1 (g) 0 (l).length),nB (l) (g),tB cs gB sB eB] (.pv (.tup [])) [az true (.ref 1 (g+(out i).length) 0 (l++out i).length),nB (l++out i) (g+(out i).length),tB cs gB sB eB]) :
  aA ctx 373 [.ptr 0 0 0,.ptr 2 gB off,.bm 374 [.ptr 0 0 0]] [az true (.ref 1 (g) 0 (l).length),nB (l) (g),tB cs gB sB eB] (.pv (.tup [])) [az true (.ref 1 (g+(aT out n n).length) 0 (l++aT out n n).length),nB (l++aT out n n) (g+(aT out n n).length),tB cs gB sB eB]:=by
 have hnum:=mg l g [.ptr 2 0 0] [(n:Int)] [.pv (.int .i64 n)] 0 0 3 ⟨.inr ⟨0,rfl,by simp,rfl⟩,trivial⟩ (by simp[aT]at hl ⊢;omega) (by rfl) (by rfl);have hnum:=dh (E:=[⟨[.pv (.int .i64 n)],0,1,3,false⟩,aK [.ptr 2 0 0]]) hnum [3,4] [tB cs gB sB eB,⟨[.pv (.int .i64 n)],0,1,3,false⟩,aK [.ptr 3 0 0]] (by decide) (by simp) (fun _ _=>⟨rfl,rfl,trivial⟩) (by rfl) (by simp[cC,Nat.blt]) rfl;have hld:(cs.map AV.pv).getD off .any= .pv (.sl n cells):=ka ho hv;have hld':(cs.map AV.pv)[off]?.getD AV.any= .pv (.sl n cells):=by rw[←hld,List.getD]
 have hcsl:(cs.map AV.pv).length=cs.length:=by simp
 have hno:=eo (l++aT out n n) 3;have hcc:=aM cs 3;have hb:=mA out n;refine aH (C:=ctx) (Fn.of CN rfl) rfl (by simp) rfl (by simp only[aY,az,nB,tB,xB,List.all_cons,List.all_nil,List.length_cons,List.length_nil,Nat.zero_add,Nat.reduceAdd,hcc,hno];rfl) ?_;unfold rT;repeat' (first|((with_reducible first|show aI _|show aP _);simp[vb,hld,hld',hcsl]<;>omega)|exact(rfl:some _=_)|((fail_if_success refine aZ ?_);refine cu [ξ 10 (.sl n cells),(14,{val:=some (.pv (.tup [])),mem:=some ([az true (.ref 1 (g+1) 0 (l++[(n:Int)]).length),nB (l++[(n:Int)]) (g+1),tB cs gB sB eB,⟨[.pv (.int .i64 n)],0,1,3,false⟩,aK [.ptr 3 0 0]])}),ξ 48 (.sl n cells)] ?_;(repeat1' dsimp only[rT,az,nB,aK,tB,xB,go_sem]);first|refine ba ?_ ?_ rfl ?_|apply bb|apply bf|(refine bg (fun hc=>?_) fun hc=>?_<;>first|(cases hc;done)|(exfalso;simp[hld,hld',hcsl]at hc<;>omega)|(try simp only[bn]at hc;try contradiction))|skip))
 all_goals first|exact⟨hld',trivial⟩|exact⟨hnum,trivial⟩|skip
 refine jj n (fun k=>[(50,.pv (.int .i64 k)),(49,.pv (.int .i64 n)),(0,.ptr 0 0 0),(1,.ptr 2 gB off),(2,.bm 374 [.ptr 0 0 0])]) (fun k=>[az true (.ref 1 (g+(aT out n k).length) 0 (l++aT out n k).length),nB (l++aT out n k) (g+(aT out n k).length),tB cs gB sB eB,⟨[.pv (.int .i64 n)],0,1,3,false⟩,aK [.ptr 3 0 0]]) (by (repeat' (first|exact trivial|refine And.intro (by first|rfl|(simp[get,Nat.beq]<;>omega)|(dsimp only[get];congr 1<;>first|rfl|omega|(simp<;>omega))) ?_))) (by simp[az,nB,aK,tB,xB,aT]) fun k hk=>?_
 by_cases hkn:k=n
 ·subst hkn;repeat' (first|((with_reducible first|show aI _|show aP _);simp[vb]<;>omega)|exact(rfl:some _=_)|((fail_if_success refine aZ ?_);refine bJ ?_;(repeat1' dsimp only[rT,az,nB,aK,tB,xB,go_sem]);first|refine ba ?_ ?_ rfl ?_|apply bb|apply bf|(refine bg (fun hc=>?_) fun hc=>?_<;>first|(cases hc;done)|(exfalso;simp at hc<;>omega)|(try simp only[bn]at hc;try contradiction))|skip))
  exact⟨⟨trivial,rfl⟩,_,rfl⟩
 have hek:=he k (by omega) (l++aT out n k) (g+(aT out n k).length) (by
  have:=hb (n-(k+1)) (k+1);rw[show k+1+(n-(k+1))=n by omega,cO,List.length_append]at this;rw[List.length_append];omega)
 have hek:=dh (E:=[tB cs gB sB eB]) hek [2] [tB cs gB sB eB,⟨[.pv (.int .i64 n)],0,1,3,false⟩,aK [.ptr 3 0 0]] (by decide) (by simp) (fun _ _=>⟨by rw[dH];rfl,trivial⟩) (by simp only[List.all_cons,List.all_nil,tB,aM];rfl) (by simp[cC,Nat.blt]) rfl;rw[List.append_assoc,←cO,Nat.add_assoc,←List.length_append,←cO]at hek;repeat' (first|((with_reducible first|show aI _|show aP _);simp[vb,hld,hld',hcsl]<;>omega)|exact(rfl:some _=_)|((fail_if_success refine aZ ?_);refine cu [ξ 56 (.sl n cells),(59,{val:=some (.pv (.tup [])),mem:=some ([az true (.ref 1 (g+(aT out n (k+1)).length) 0 (l++aT out n (k+1)).length),nB (l++aT out n (k+1)) (g+(aT out n (k+1)).length),tB cs gB sB eB,⟨[.pv (.int .i64 n)],0,1,3,false⟩,aK [.ptr 3 0 0]])})] ?_;(repeat1' dsimp only[rT,az,nB,aK,tB,xB,go_sem]);first|refine ba ?_ ?_ rfl ?_|apply bb|apply bf|(refine bg (fun hc=>?_) fun hc=>?_<;>first|(cases hc;done)|(exfalso;simp[hld,hld',hcsl]at hc<;>omega)|(try simp only[bn]at hc;try contradiction))|skip))
 ·first|exact⟨hek,trivial⟩|exact⟨hek,hld',trivial⟩
 refine⟨by omega,by (repeat' (first|exact trivial|refine And.intro (by first|rfl|(simp[get,Nat.beq]<;>omega)|(dsimp only[get];congr 1<;>first|rfl|omega|(simp<;>omega))) ?_)),?_⟩;first|rfl
end
section
open Tr
def di (out:Nat→List Int) (n:Nat) (r:List Int) (i:Nat):List Int:=((List.range n).drop i).flatMap out++r
theorem iJ (out:Nat→List Int) (n:Nat) (r:List Int) {i:Nat} (h:i<n):di out n r i=out i++di out n r (i+1):=by
 unfold di;rw[List.drop_eq_getElem_cons (by simpa using h),List.flatMap_cons,List.getElem_range,List.append_assoc]
theorem gR (out:Nat→List Int) (n:Nat) (r:List Int):di out n r n=r:=by
 unfold di;rw[List.drop_eq_nil_of_le (by simp)];rfl
theorem dj (out:Nat→List Int) (n:Nat) (r:List Int):aT out n n++r=(n:Int)::di out n r 0:=by simp[aT,di]
theorem mh (out:Nat→List Int) (n:Nat) (r:List Int) (ho:∀i,i<n→1≤(out i).length):∀(d i:Nat),i+d=n→d≤(di out n r i).length
 |0,_,_=>Nat.zero_le _
 |d+1,i,h=>by
  rw[iJ out n r (show i<n by omega),List.length_append];have:=mh out n r ho d (i+1) (by omega);have:=ho i (by omega);omega
theorem oC (out:Nat→List Int) (n:Nat) (r:List Int):∀(i:Nat),i≤n→(di out n r i).length≤(di out n r 0).length
 |0,_=>Nat.le_refl _
 |i+1,h=>by
  have:=oC out n r i (by omega);rw[iJ out n r (show i<n by omega),List.length_append]at this;omega
theorem Fl {M:AM} {b n sz:Nat} {ps:List PV} {e:TypeId} {fz:Bool} (hM:M[b]?=some ⟨ps.map .pv,0,sz+1,e,fz⟩) (hl:ps.length=n*(sz+1)):bI M (.ref b 0 0 n)=some (.sl n ps):=by
 have h1:Nat.beq (sz+1) 0=false:=rfl;have h2:Nat.ble (0+n*(sz+1)) (ps.map AV.pv).length=true:=Nat.ble_eq_true_of_le (by simp[hl]);have h3:((ps.map AV.pv).drop 0).take (n*(sz+1))=ps.map .pv:=by rw[List.drop_zero,List.take_of_length_le (by simp[hl])]
 have h4:∀(l:List PV),cG (l.map .pv)=some l:=fun l=>by
  induction l with
  |nil=>rfl
  |cons p r ih=>simp only[List.map_cons,cG,ih]
 simp only[bI,hM,h1,Nat.beq_refl,h2,h3,h4,Bool.not_false,Bool.true_and,cond_true]
theorem qg {own:Nat→Bool} {n' m:Nat} {R:Exit→AF→AM→Prop} {f:AF} {P:dI} {Z:AM} {cs ps:List PV} {off n sz g0 s0:Nat} {e e0:TypeId} {x:af} (hP:P.cells.all (cC 3 (Z.length+2))=true) (hZ:Z.all (fun k=>k.cells.all (cC 3 (Z.length+2)))=true) (hl:ps.length=n*(sz+1))
  (hf:∀M,nX M (Z.length+2) f=f)
  (h:Aw ctx own n' m x R f (P::tB (cs.set off (.sl n ps)) g0 s0 e0::(Z++[⟨ps.map .pv,0,sz+1,e,true⟩]))) :
  Aw ctx own n' m x R f (P::⟨(cs.map .pv).set off (.ref (Z.length+2) 0 0 n),g0,s0+1,e0,false⟩::(Z++[⟨ps.map .pv,0,sz+1,e,false⟩])):=by
 have hb:(P::⟨(cs.map .pv).set off (.ref (Z.length+2) 0 0 n),g0,s0+1,e0,false⟩::(Z++[⟨ps.map .pv,0,sz+1,e,false⟩]):AM)[Z.length+2]?=some ⟨ps.map .pv,0,sz+1,e,false⟩:=by
  simp
 refine vX (Z.length+2) (by simp) ?_;rw[hf];have hsol:=Fl hb hl;generalize hM:(P::⟨(cs.map .pv).set off (.ref (Z.length+2) 0 0 n),g0,s0+1,e0,false⟩::(Z++[⟨ps.map .pv,0,sz+1,e,false⟩]):AM)=M at *;have hpv:∀l:List PV,(l.map AV.pv).map (fX M (Z.length+2))=l.map .pv:=fun l=>by simp[Function.comp_def,fX]
 have hcell:∀c:List AV,c.all (cC 3 (Z.length+2))=true→c.map (fX M (Z.length+2))=c:=fun c hc=>by
  conv=>rhs;rw[←List.map_id c]
  refine List.map_congr_left fun v hv=>?_
  exact y5 (List.all_eq_true.mp hc v hv) (Nat.le_refl _) M
 have hmap:Z.map (fun k=>{k with cells:=k.cells.map (fX M (Z.length+2))})=Z:=by
  conv=>rhs;rw[←List.map_id Z]
  refine List.map_congr_left fun k hk=>?_
  rw[hcell _ (List.all_eq_true.mp hZ k hk)];rfl
 have hfz:freeze M [Z.length+2]=P::⟨(cs.map .pv).set off (.ref (Z.length+2) 0 0 n),g0,s0+1,e0,false⟩::(Z++[⟨ps.map .pv,0,sz+1,e,true⟩]):=by
  simp only[freeze,hb];rw[←hM];simp
 have hS:mG M (Z.length+2)=P::tB (cs.set off (.sl n ps)) g0 s0 e0::(Z++[⟨ps.map .pv,0,sz+1,e,true⟩]):=by
  unfold mG;rw[hfz];simp only[List.map_append,List.map_cons,List.map_nil,hmap,hpv,hcell _ hP,List.map_set,tB];simp only[fX,Nat.beq_refl,cond_true,hsol]
 rw[hS];exact h
theorem aA.zF {f:FuncId} {al:List AV} {μ μ1 μ2:AM} {r:AV} (h:aA ctx f al μ r μ1) (hm:MW μ1 μ2):aA ctx f al μ r μ2:=⟨h.1,fun w0 S γ w vs hW hp=>(h.2 w0 S γ w vs hW hp).mono fun e w' hh=>by
 obtain⟨v,S',γ',h1,h2,h3,h4⟩:=hh;exact⟨v,S',γ',h1,h2,h3.KI hm,h4⟩⟩
theorem oD (cs:List PV) (off:Nat) (ho:off<cs.length) (hv:cs.getD off default= .nilsl):PW CW (cs.map AV.pv) ((cs.set off (.sl 0 [])).map AV.pv):=by
 refine⟨by simp,fun i a b ha hb=>?_⟩;rw[List.getElem?_map]at ha hb;rw[List.getElem?_set]at hb;by_cases hi:off=i
 ·subst hi;rw[if_pos rfl,if_pos ho]at hb;rw[List.getD,List.getElem?_eq_getElem ho,Option.getD_some]at hv;rw[List.getElem?_eq_getElem ho,hv]at ha;simp only[Option.map_some,Option.some.injEq]at ha hb;subst ha hb;exact CW.nil
 rw[if_neg hi,ha]at hb;injection hb with hb
 subst hb;exact CW.refl _
theorem AZ (r:List Int) (off:Nat) (cs:List PV) (gB sB:Nat) (eB:TypeId) (n:Nat) (row:Nat→List PV) (out:Nat→List Int) (ho:off<cs.length) (hv:cs.getD off default= .nilsl) (hr0:row 0=cj [.int .i64 0] n) (hrl:(row n).length=n*1) (hout:∀i,i<n→1≤(out i).length) (hl:(aT out n n).length+r.length≤1000000000) (hn:n≤1000000) (h0:n=0):aA ctx 414 [.ptr 0 0 0,.ptr 1 gB off,.fn 415 [.ptr 2 0 0]] [az false (.pv (aa (aT out n n++r))),tB cs gB sB eB,xB 0] (.pv (.tup [])) [az false (.pv (aa (r))),tB cs gB sB eB,xB 0]:=by
 have hre:=gR out n r;rw[dj];have hlr:(di out n r 0).length+1≤1000000000:=by
  have:=congrArg List.length (dj out n r);simp only[List.length_append,List.length_cons]at this;omega
 have hnum:=jZ (di out n r 0) [(n:Int)] [0] [.pv (.int .i64 0)] 0 0 3 rfl (by simp) (by simp;omega) (by rfl);have hnum:=cW (E:=[aK [.ptr 1 0 0]]) (cs:=[.int .i64 0]) (cs':=[.int .i64 n]) hnum 2 [4] [tB cs gB sB eB,xB 0,tB [.int .i64 0] 0 0 3,aK [.ptr 3 0 0]] (by decide) rfl (by simp) (fun _ _=>⟨rfl,trivial⟩) (by rfl) (by simp[cC,Nat.blt]) rfl;have hld:(cs.map AV.pv).getD off .any= .pv .nilsl:=ka ho hv;have hld':(cs.map AV.pv)[off]?.getD AV.any= .pv .nilsl:=by rw[←hld,List.getD]
 have hcsl:(cs.map AV.pv).length=cs.length:=by simp
 have hil:=aU (di out n r 0);have hcc:=aM cs 3;subst h0;rw[hre]at *;refine aH (C:=ctx) (Fn.of zE rfl) rfl (by simp) rfl (by simp only[aY,az,tB,xB,List.all_cons,List.all_nil,List.length_cons,List.length_nil,Nat.zero_add,Nat.reduceAdd,hcc];rfl) ?_;unfold nr;repeat' (first|((with_reducible first|show aI _|show aP _);simp[vb,hld,hld',hcsl,hil]<;>omega)|exact(rfl:some _=_)|((fail_if_success refine aZ ?_);refine cu [(10,{val:=some (.pv .nilsl)}),(14,{val:=some (.pv (.tup [])),mem:=some ([az false (.pv (aa (r))),tB cs gB sB eB,xB 0,tB [.int .i64 ((0:Nat):Int)] 0 0 3,aK [.ptr 3 0 0]])})] ?_;(repeat1' dsimp only[nr,az,aK,tB,xB,aa,go_sem]);first|refine ba ?_ ?_ rfl ?_|apply bb|apply bf|(refine bg (fun hc=>?_) fun hc=>?_<;>first|(cases hc;done)|(exfalso;simp[hld,hld',hcsl,hil]at hc<;>omega)|(try simp only[bn]at hc;try contradiction))|skip))
 all_goals first|exact⟨hld',trivial⟩|exact⟨hnum,trivial⟩|skip
 exact⟨⟨trivial,rfl⟩,_,rfl⟩
theorem A0 (r:List Int) (off:Nat) (cs:List PV) (gB sB:Nat) (eB:TypeId) (n:Nat) (row:Nat→List PV) (out:Nat→List Int) (ho:off<cs.length) (hv:cs.getD off default= .nilsl) (hr0:row 0=cj [.int .i64 0] n) (hrl:(row n).length=n*1) (hout:∀i,i<n→1≤(out i).length) (hl:(aT out n n).length+r.length≤1000000000) (hn:n≤1000000) (he:∀(i:Nat),i<n→∀(r:List Int),(out i).length+r.length≤1000000000→aA ctx 415 [.ptr 1 0 (0+i*1),.ptr 2 0 0] [az false (.pv (aa (out i++r))),tB (row i) 0 0 3,xB 0] (.pv (.tup [])) [az false (.pv (aa r)),tB (row (i+1)) 0 0 3,xB 0]) (h0:n≠0):aA ctx 414 [.ptr 0 0 0,.ptr 1 gB off,.fn 415 [.ptr 2 0 0]] [az false (.pv (aa (aT out n n++r))),tB cs gB sB eB,xB 0] (.pv (.tup [])) [az false (.pv (aa (r))),tB (cs.set off (.sl n (row n))) gB sB eB,xB 0]:=by
 have hrem:=mh out n r hout n 0 (by omega);have hre:=gR out n r;have hrle:=oC out n r;rw[dj];have hlr:(di out n r 0).length+1≤1000000000:=by
  have:=congrArg List.length (dj out n r);simp only[List.length_append,List.length_cons]at this;omega
 have hnum:=jZ (di out n r 0) [(n:Int)] [0] [.pv (.int .i64 0)] 0 0 3 rfl (by simp) (by simp;omega) (by rfl);have hnum:=cW (E:=[aK [.ptr 1 0 0]]) (cs:=[.int .i64 0]) (cs':=[.int .i64 n]) hnum 2 [4] [tB cs gB sB eB,xB 0,tB [.int .i64 0] 0 0 3,aK [.ptr 3 0 0]] (by decide) rfl (by simp) (fun _ _=>⟨rfl,trivial⟩) (by rfl) (by simp[cC,Nat.blt]) rfl;have hld:(cs.map AV.pv).getD off .any= .pv .nilsl:=ka ho hv;have hld':(cs.map AV.pv)[off]?.getD AV.any= .pv .nilsl:=by rw[←hld,List.getD]
 have hcsl:(cs.map AV.pv).length=cs.length:=by simp
 have hil:=aU (di out n r 0);have hcc:=aM (cs.set off (.sl n (row n))) 3;have hst:((cs.map AV.pv).set off (.ref 5 0 0 n))[off]?.getD AV.any= .ref 5 0 0 n:=by simp[List.getElem?_set,ho]
 have hsl:((cs.map AV.pv).set off (.ref 5 0 0 n)).length=cs.length:=by simp
 refine aH (C:=ctx) (Fn.of zE rfl) rfl (by simp) rfl (by simp only[aY,az,tB,xB,List.all_cons,List.all_nil,List.length_cons,List.length_nil,Nat.zero_add,Nat.reduceAdd,hcc];rfl) ?_;unfold nr;repeat' (first|((with_reducible first|show aI _|show aP _);simp[vb,hld,hld',hcsl,hil,hst,hsl]<;>omega)|exact(rfl:some _=_)|((fail_if_success refine aZ ?_);refine cu [(10,{val:=some (.pv .nilsl)}),(14,{val:=some (.pv (.tup [])),mem:=some ([az false (.pv (aa (di out n r 0))),tB cs gB sB eB,xB 0,tB [.int .i64 n] 0 0 3,aK [.ptr 3 0 0]])}),(48,{val:=some (.ref 5 0 0 n)})] ?_;(repeat1' dsimp only[nr,az,aK,tB,xB,aa,Int.toNat_natCast,go_sem]);first|refine ba ?_ ?_ rfl ?_|apply bb|apply bf|(refine bg (fun hc=>?_) fun hc=>?_<;>first|(cases hc;done)|(exfalso;simp[hld,hld',hcsl,hil,hst,hsl]at hc<;>omega)|(try simp only[bn]at hc;try contradiction))|skip))
 all_goals first|exact⟨hld',trivial⟩|exact⟨hnum,trivial⟩|exact⟨hst,trivial⟩|skip
 refine jj n (fun k=>[(50,.pv (.int .i64 k)),(49,.pv (.int .i64 n)),(0,.ptr 0 0 0),(1,.ptr 1 gB off),(2,.fn 415 [.ptr 2 0 0])]) (fun k=>[az false (.pv (aa (di out n r k))),⟨(cs.map .pv).set off (.ref 5 0 0 n),gB,sB+1,eB,false⟩,xB 0,tB [.int .i64 n] 0 0 3,aK [.ptr 3 0 0],tB (row k) 0 0 3]) (by (repeat' (first|exact trivial|refine And.intro (by first|rfl|(simp[get,Nat.beq]<;>omega)|(dsimp only[get];congr 1<;>first|rfl|omega|(simp<;>omega))) ?_))) (by simp[az,aK,tB,xB,aa,hr0]) fun k hk=>?_
 by_cases hkn:k=n
 ·subst hkn;refine qg (Z:=[xB 0,tB [.int .i64 k] 0 0 3,aK [.ptr 3 0 0]]) (by rfl) (by rfl) hrl (fun M=>rfl) ?_;rw[hre];repeat' (first|((with_reducible first|show aI _|show aP _);simp[vb]<;>omega)|exact(rfl:some _=_)|((fail_if_success refine aZ ?_);refine bJ ?_;(repeat1' dsimp only[nr,az,aK,tB,xB,aa,go_sem]);first|refine ba ?_ ?_ rfl ?_|apply bb|apply bf|(refine bg (fun hc=>?_) fun hc=>?_<;>first|(cases hc;done)|(exfalso;simp at hc<;>omega)|(try simp only[bn]at hc;try contradiction))|skip))
  all_goals first|exact⟨⟨trivial,rfl⟩,_,rfl⟩|trace_state
 have hrk:=iJ out n r (show k<n by omega);have hek:=he k (by omega) (di out n r (k+1)) (by
  have:=hrle k hk;rw[hrk,List.length_append]at this;omega)
 rw[←hrk]at hek;have hek:=cW (E:=[xB 0]) hek 4 [2] [⟨(cs.map .pv).set off (.ref 5 0 0 n),gB,sB+1,eB,false⟩,xB 0,tB [.int .i64 n] 0 0 3,aK [.ptr 3 0 0],tB (row k) 0 0 3] (by decide) rfl (by simp) (fun _ _=>⟨rfl,trivial⟩) (by rfl) (by simp[cC,Nat.blt]) rfl;repeat' (first|((with_reducible first|show aI _|show aP _);simp[vb,hst,hsl]<;>omega)|exact(rfl:some _=_)|((fail_if_success refine aZ ?_);refine cu [(56,{val:=some (.ref 5 0 0 n)}),(59,{val:=some (.pv (.tup [])),mem:=some ([az false (.pv (aa (di out n r (k+1)))),⟨(cs.map .pv).set off (.ref 5 0 0 n),gB,sB+1,eB,false⟩,xB 0,tB [.int .i64 n] 0 0 3,aK [.ptr 3 0 0],tB (row (k+1)) 0 0 3])})] ?_;(repeat1' dsimp only[nr,az,aK,tB,xB,aa,Int.toNat_natCast,go_sem]);first|refine ba ?_ ?_ rfl ?_|apply bb|apply bf|(refine bg (fun hc=>?_) fun hc=>?_<;>first|(cases hc;done)|(exfalso;simp[hst,hsl]at hc<;>omega)|(try simp only[bn]at hc;try contradiction))|skip))
 all_goals first|exact⟨hek,trivial⟩|exact⟨hek,hst,trivial⟩|exact⟨by omega,by (repeat' (first|exact trivial|refine And.intro (by first|rfl|(simp[get,Nat.beq]<;>omega)|(dsimp only[get];congr 1<;>first|rfl|omega|(simp<;>omega))) ?_)),rfl⟩|trace_state
theorem CO (r:List Int) (off:Nat) (cs:List PV) (gB sB:Nat) (eB:TypeId) (n:Nat) (row:Nat→List PV) (out:Nat→List Int) (ho:off<cs.length) (hv:cs.getD off default= .nilsl) (hr0:row 0=cj [.int .i64 0] n) (hrl:(row n).length=n*1) (hout:∀i,i<n→1≤(out i).length) (hl:(aT out n n).length+r.length≤1000000000) (hn:n≤1000000) (he:∀(i:Nat),i<n→∀(r:List Int),(out i).length+r.length≤1000000000→aA ctx 415 [.ptr 1 0 (0+i*1),.ptr 2 0 0] [az false (.pv (aa (out i++r))),tB (row i) 0 0 3,xB 0] (.pv (.tup [])) [az false (.pv (aa r)),tB (row (i+1)) 0 0 3,xB 0]):aA ctx 414 [.ptr 0 0 0,.ptr 1 gB off,.fn 415 [.ptr 2 0 0]] [az false (.pv (aa (aT out n n++r))),tB cs gB sB eB,xB 0] (.pv (.tup [])) [az false (.pv (aa (r))),tB (cs.set off (.sl n (row n))) gB sB eB,xB 0]:=by
 by_cases h0:n=0
 ·refine(AZ r off cs gB sB eB n row out ho hv hr0 hrl hout hl hn h0).zF ⟨rfl,fun i a b ha hb=>?_⟩;subst h0;have hrn:row 0=[]:=List.eq_nil_of_length_eq_zero (by simpa using hrl);rw[hrn]at hb;have hw:=oD cs off ho hv;match i with
  |1 =>
   simp only[List.getElem?_cons_succ,List.getElem?_cons_zero,Option.some.injEq]at ha hb;subst ha hb;exact⟨hw,rfl,rfl,rfl,rfl⟩
  |0 =>
   simp only[List.getElem?_cons_zero,Option.some.injEq]at ha hb;subst ha hb;exact BW.refl _
  |i+2 =>
   simp only[List.getElem?_cons_succ]at ha hb;rw[ha]at hb;injection hb with hb
   subst hb;exact BW.refl _
 exact A0 r off cs gB sB eB n row out ho hv hr0 hrl hout hl hn he h0
theorem A1 (r:List Int) (off:Nat) (cs:List PV) (gB sB:Nat) (eB:TypeId) (n:Nat) (row:Nat→List PV) (out:Nat→List Int) (ho:off<cs.length) (hv:cs.getD off default= .nilsl) (hr0:row 0=cj [.int .i64 0,.int .i64 0,.int .i64 0,.int .i64 0] n) (hrl:(row n).length=n*4) (hout:∀i,i<n→1≤(out i).length) (hl:(aT out n n).length+r.length≤1000000000) (hn:n≤1000000) (h0:n=0):aA ctx 412 [.ptr 0 0 0,.ptr 1 gB off,.bm 413 [.ptr 0 0 0]] [az false (.pv (aa (aT out n n++r))),tB cs gB sB eB] (.pv (.tup [])) [az false (.pv (aa (r))),tB cs gB sB eB]:=by
 have hre:=gR out n r;rw[dj];have hlr:(di out n r 0).length+1≤1000000000:=by
  have:=congrArg List.length (dj out n r);simp only[List.length_append,List.length_cons]at this;omega
 have hnum:=jZ (di out n r 0) [(n:Int)] [0] [.pv (.int .i64 0)] 0 0 3 rfl (by simp) (by simp;omega) (by rfl);have hnum:=cW (E:=[aK [.ptr 1 0 0]]) (cs:=[.int .i64 0]) (cs':=[.int .i64 n]) hnum 1 [3] [tB cs gB sB eB,tB [.int .i64 0] 0 0 3,aK [.ptr 2 0 0]] (by decide) rfl (by simp) (fun _ _=>⟨rfl,trivial⟩) (by rfl) (by simp[cC,Nat.blt]) rfl;have hld:(cs.map AV.pv).getD off .any= .pv .nilsl:=ka ho hv;have hld':(cs.map AV.pv)[off]?.getD AV.any= .pv .nilsl:=by rw[←hld,List.getD]
 have hcsl:(cs.map AV.pv).length=cs.length:=by simp
 have hil:=aU (di out n r 0);have hcc:=aM cs 2;subst h0;rw[hre]at *;refine aH (C:=ctx) (Fn.of CL rfl) rfl (by simp) rfl (by simp only[aY,az,tB,xB,List.all_cons,List.all_nil,List.length_cons,List.length_nil,Nat.zero_add,Nat.reduceAdd,hcc];rfl) ?_;unfold rR;repeat' (first|((with_reducible first|show aI _|show aP _);simp[vb,hld,hld',hcsl,hil]<;>omega)|exact(rfl:some _=_)|((fail_if_success refine aZ ?_);refine cu [(10,{val:=some (.pv .nilsl)}),(14,{val:=some (.pv (.tup [])),mem:=some ([az false (.pv (aa (r))),tB cs gB sB eB,tB [.int .i64 ((0:Nat):Int)] 0 0 3,aK [.ptr 2 0 0]])})] ?_;(repeat1' dsimp only[rR,az,aK,tB,xB,aa,go_sem]);first|refine ba ?_ ?_ rfl ?_|apply bb|apply bf|(refine bg (fun hc=>?_) fun hc=>?_<;>first|(cases hc;done)|(exfalso;simp[hld,hld',hcsl,hil]at hc<;>omega)|(try simp only[bn]at hc;try contradiction))|skip))
 all_goals first|exact⟨hld',trivial⟩|exact⟨hnum,trivial⟩|skip
 exact⟨⟨trivial,rfl⟩,_,rfl⟩
theorem A2 (r:List Int) (off:Nat) (cs:List PV) (gB sB:Nat) (eB:TypeId) (n:Nat) (row:Nat→List PV) (out:Nat→List Int) (ho:off<cs.length) (hv:cs.getD off default= .nilsl) (hr0:row 0=cj [.int .i64 0,.int .i64 0,.int .i64 0,.int .i64 0] n) (hrl:(row n).length=n*4) (hout:∀i,i<n→1≤(out i).length) (hl:(aT out n n).length+r.length≤1000000000) (hn:n≤1000000) (he:∀(i:Nat),i<n→∀(r:List Int),(out i).length+r.length≤1000000000→aA ctx 413 [.ptr 0 0 0,.ptr 1 0 (0+i*4)] [az false (.pv (aa (out i++r))),tB (row i) 0 3 65] (.pv (.tup [])) [az false (.pv (aa r)),tB (row (i+1)) 0 3 65]) (h0:n≠0):aA ctx 412 [.ptr 0 0 0,.ptr 1 gB off,.bm 413 [.ptr 0 0 0]] [az false (.pv (aa (aT out n n++r))),tB cs gB sB eB] (.pv (.tup [])) [az false (.pv (aa (r))),tB (cs.set off (.sl n (row n))) gB sB eB]:=by
 have hrem:=mh out n r hout n 0 (by omega);have hre:=gR out n r;have hrle:=oC out n r;rw[dj];have hlr:(di out n r 0).length+1≤1000000000:=by
  have:=congrArg List.length (dj out n r);simp only[List.length_append,List.length_cons]at this;omega
 have hnum:=jZ (di out n r 0) [(n:Int)] [0] [.pv (.int .i64 0)] 0 0 3 rfl (by simp) (by simp;omega) (by rfl);have hnum:=cW (E:=[aK [.ptr 1 0 0]]) (cs:=[.int .i64 0]) (cs':=[.int .i64 n]) hnum 1 [3] [tB cs gB sB eB,tB [.int .i64 0] 0 0 3,aK [.ptr 2 0 0]] (by decide) rfl (by simp) (fun _ _=>⟨rfl,trivial⟩) (by rfl) (by simp[cC,Nat.blt]) rfl;have hld:(cs.map AV.pv).getD off .any= .pv .nilsl:=ka ho hv;have hld':(cs.map AV.pv)[off]?.getD AV.any= .pv .nilsl:=by rw[←hld,List.getD]
 have hcsl:(cs.map AV.pv).length=cs.length:=by simp
 have hil:=aU (di out n r 0);have hcc:=aM (cs.set off (.sl n (row n))) 2;have hst:((cs.map AV.pv).set off (.ref 4 0 0 n))[off]?.getD AV.any= .ref 4 0 0 n:=by simp[List.getElem?_set,ho]
 have hsl:((cs.map AV.pv).set off (.ref 4 0 0 n)).length=cs.length:=by simp
 refine aH (C:=ctx) (Fn.of CL rfl) rfl (by simp) rfl (by simp only[aY,az,tB,xB,List.all_cons,List.all_nil,List.length_cons,List.length_nil,Nat.zero_add,Nat.reduceAdd,hcc];rfl) ?_;unfold rR;repeat' (first|((with_reducible first|show aI _|show aP _);simp[vb,hld,hld',hcsl,hil,hst,hsl]<;>omega)|exact(rfl:some _=_)|((fail_if_success refine aZ ?_);refine cu [(10,{val:=some (.pv .nilsl)}),(14,{val:=some (.pv (.tup [])),mem:=some ([az false (.pv (aa (di out n r 0))),tB cs gB sB eB,tB [.int .i64 n] 0 0 3,aK [.ptr 2 0 0]])}),(48,{val:=some (.ref 4 0 0 n)})] ?_;(repeat1' dsimp only[rR,az,aK,tB,xB,aa,Int.toNat_natCast,go_sem]);first|refine ba ?_ ?_ rfl ?_|apply bb|apply bf|(refine bg (fun hc=>?_) fun hc=>?_<;>first|(cases hc;done)|(exfalso;simp[hld,hld',hcsl,hil,hst,hsl]at hc<;>omega)|(try simp only[bn]at hc;try contradiction))|skip))
 all_goals first|exact⟨hld',trivial⟩|exact⟨hnum,trivial⟩|exact⟨hst,trivial⟩|skip
 refine jj n (fun k=>[(50,.pv (.int .i64 k)),(49,.pv (.int .i64 n)),(0,.ptr 0 0 0),(1,.ptr 1 gB off),(2,.bm 413 [.ptr 0 0 0])]) (fun k=>[az false (.pv (aa (di out n r k))),⟨(cs.map .pv).set off (.ref 4 0 0 n),gB,sB+1,eB,false⟩,tB [.int .i64 n] 0 0 3,aK [.ptr 2 0 0],tB (row k) 0 3 65]) (by (repeat' (first|exact trivial|refine And.intro (by first|rfl|(simp[get,Nat.beq]<;>omega)|(dsimp only[get];congr 1<;>first|rfl|omega|(simp<;>omega))) ?_))) (by simp[az,aK,tB,xB,aa,hr0]) fun k hk=>?_
 by_cases hkn:k=n
 ·subst hkn;refine qg (Z:=[tB [.int .i64 k] 0 0 3,aK [.ptr 2 0 0]]) (by rfl) (by rfl) hrl (fun M=>rfl) ?_;rw[hre];repeat' (first|((with_reducible first|show aI _|show aP _);simp[vb]<;>omega)|exact(rfl:some _=_)|((fail_if_success refine aZ ?_);refine bJ ?_;(repeat1' dsimp only[rR,az,aK,tB,xB,aa,go_sem]);first|refine ba ?_ ?_ rfl ?_|apply bb|apply bf|(refine bg (fun hc=>?_) fun hc=>?_<;>first|(cases hc;done)|(exfalso;simp at hc<;>omega)|(try simp only[bn]at hc;try contradiction))|skip))
  all_goals first|exact⟨⟨trivial,rfl⟩,_,rfl⟩|trace_state
 have hrk:=iJ out n r (show k<n by omega);have hek:=he k (by omega) (di out n r (k+1)) (by
  have:=hrle k hk;rw[hrk,List.length_append]at this;omega)
 rw[←hrk]at hek;have hek:=cW (E:=[]) hek 3 [] [⟨(cs.map .pv).set off (.ref 4 0 0 n),gB,sB+1,eB,false⟩,tB [.int .i64 n] 0 0 3,aK [.ptr 2 0 0],tB (row k) 0 3 65] (by decide) rfl (by simp) (fun _ _=>trivial) (by rfl) (by simp[cC,Nat.blt]) rfl;repeat' (first|((with_reducible first|show aI _|show aP _);simp[vb,hst,hsl]<;>omega)|exact(rfl:some _=_)|((fail_if_success refine aZ ?_);refine cu [(56,{val:=some (.ref 4 0 0 n)}),(59,{val:=some (.pv (.tup [])),mem:=some ([az false (.pv (aa (di out n r (k+1)))),⟨(cs.map .pv).set off (.ref 4 0 0 n),gB,sB+1,eB,false⟩,tB [.int .i64 n] 0 0 3,aK [.ptr 2 0 0],tB (row (k+1)) 0 3 65])})] ?_;(repeat1' dsimp only[rR,az,aK,tB,xB,aa,Int.toNat_natCast,go_sem]);first|refine ba ?_ ?_ rfl ?_|apply bb|apply bf|(refine bg (fun hc=>?_) fun hc=>?_<;>first|(cases hc;done)|(exfalso;simp[hst,hsl]at hc<;>omega)|(try simp only[bn]at hc;try contradiction))|skip))
 all_goals first|exact⟨hek,trivial⟩|exact⟨hek,hst,trivial⟩|exact⟨by omega,by (repeat' (first|exact trivial|refine And.intro (by first|rfl|(simp[get,Nat.beq]<;>omega)|(dsimp only[get];congr 1<;>first|rfl|omega|(simp<;>omega))) ?_)),rfl⟩|trace_state
theorem CP (r:List Int) (off:Nat) (cs:List PV) (gB sB:Nat) (eB:TypeId) (n:Nat) (row:Nat→List PV) (out:Nat→List Int) (ho:off<cs.length) (hv:cs.getD off default= .nilsl) (hr0:row 0=cj [.int .i64 0,.int .i64 0,.int .i64 0,.int .i64 0] n) (hrl:(row n).length=n*4) (hout:∀i,i<n→1≤(out i).length) (hl:(aT out n n).length+r.length≤1000000000) (hn:n≤1000000) (he:∀(i:Nat),i<n→∀(r:List Int),(out i).length+r.length≤1000000000→aA ctx 413 [.ptr 0 0 0,.ptr 1 0 (0+i*4)] [az false (.pv (aa (out i++r))),tB (row i) 0 3 65] (.pv (.tup [])) [az false (.pv (aa r)),tB (row (i+1)) 0 3 65]):aA ctx 412 [.ptr 0 0 0,.ptr 1 gB off,.bm 413 [.ptr 0 0 0]] [az false (.pv (aa (aT out n n++r))),tB cs gB sB eB] (.pv (.tup [])) [az false (.pv (aa (r))),tB (cs.set off (.sl n (row n))) gB sB eB]:=by
 by_cases h0:n=0
 ·refine(A1 r off cs gB sB eB n row out ho hv hr0 hrl hout hl hn h0).zF ⟨rfl,fun i a b ha hb=>?_⟩;subst h0;have hrn:row 0=[]:=List.eq_nil_of_length_eq_zero (by simpa using hrl);rw[hrn]at hb;have hw:=oD cs off ho hv;match i with
  |1 =>
   simp only[List.getElem?_cons_succ,List.getElem?_cons_zero,Option.some.injEq]at ha hb;subst ha hb;exact⟨hw,rfl,rfl,rfl,rfl⟩
  |0 =>
   simp only[List.getElem?_cons_zero,Option.some.injEq]at ha hb;subst ha hb;exact BW.refl _
  |i+2 =>
   simp only[List.getElem?_cons_succ]at ha hb;rw[ha]at hb;injection hb with hb
   subst hb;exact BW.refl _
 exact A2 r off cs gB sB eB n row out ho hv hr0 hrl hout hl hn he h0
theorem A3 (r:List Int) (off:Nat) (cs:List PV) (gB sB:Nat) (eB:TypeId) (n:Nat) (row:Nat→List PV) (out:Nat→List Int) (ho:off<cs.length) (hv:cs.getD off default= .nilsl) (hr0:row 0=cj [.int .i64 0,.int .i64 0] n) (hrl:(row n).length=n*2) (hout:∀i,i<n→1≤(out i).length) (hl:(aT out n n).length+r.length≤1000000000) (hn:n≤1000000) (h0:n=0):aA ctx 371 [.ptr 0 0 0,.ptr 1 gB off,.bm 372 [.ptr 0 0 0]] [az false (.pv (aa (aT out n n++r))),tB cs gB sB eB] (.pv (.tup [])) [az false (.pv (aa (r))),tB cs gB sB eB]:=by
 have hre:=gR out n r;rw[dj];have hlr:(di out n r 0).length+1≤1000000000:=by
  have:=congrArg List.length (dj out n r);simp only[List.length_append,List.length_cons]at this;omega
 have hnum:=jZ (di out n r 0) [(n:Int)] [0] [.pv (.int .i64 0)] 0 0 3 rfl (by simp) (by simp;omega) (by rfl);have hnum:=cW (E:=[aK [.ptr 1 0 0]]) (cs:=[.int .i64 0]) (cs':=[.int .i64 n]) hnum 1 [3] [tB cs gB sB eB,tB [.int .i64 0] 0 0 3,aK [.ptr 2 0 0]] (by decide) rfl (by simp) (fun _ _=>⟨rfl,trivial⟩) (by rfl) (by simp[cC,Nat.blt]) rfl;have hld:(cs.map AV.pv).getD off .any= .pv .nilsl:=ka ho hv;have hld':(cs.map AV.pv)[off]?.getD AV.any= .pv .nilsl:=by rw[←hld,List.getD]
 have hcsl:(cs.map AV.pv).length=cs.length:=by simp
 have hil:=aU (di out n r 0);have hcc:=aM cs 2;subst h0;rw[hre]at *;refine aH (C:=ctx) (Fn.of CM rfl) rfl (by simp) rfl (by simp only[aY,az,tB,xB,List.all_cons,List.all_nil,List.length_cons,List.length_nil,Nat.zero_add,Nat.reduceAdd,hcc];rfl) ?_;unfold rS;repeat' (first|((with_reducible first|show aI _|show aP _);simp[vb,hld,hld',hcsl,hil]<;>omega)|exact(rfl:some _=_)|((fail_if_success refine aZ ?_);refine cu [(10,{val:=some (.pv .nilsl)}),(14,{val:=some (.pv (.tup [])),mem:=some ([az false (.pv (aa (r))),tB cs gB sB eB,tB [.int .i64 ((0:Nat):Int)] 0 0 3,aK [.ptr 2 0 0]])})] ?_;(repeat1' dsimp only[rS,az,aK,tB,xB,aa,go_sem]);first|refine ba ?_ ?_ rfl ?_|apply bb|apply bf|(refine bg (fun hc=>?_) fun hc=>?_<;>first|(cases hc;done)|(exfalso;simp[hld,hld',hcsl,hil]at hc<;>omega)|(try simp only[bn]at hc;try contradiction))|skip))
 all_goals first|exact⟨hld',trivial⟩|exact⟨hnum,trivial⟩|skip
 exact⟨⟨trivial,rfl⟩,_,rfl⟩
theorem A4 (r:List Int) (off:Nat) (cs:List PV) (gB sB:Nat) (eB:TypeId) (n:Nat) (row:Nat→List PV) (out:Nat→List Int) (ho:off<cs.length) (hv:cs.getD off default= .nilsl) (hr0:row 0=cj [.int .i64 0,.int .i64 0] n) (hrl:(row n).length=n*2) (hout:∀i,i<n→1≤(out i).length) (hl:(aT out n n).length+r.length≤1000000000) (hn:n≤1000000) (he:∀(i:Nat),i<n→∀(r:List Int),(out i).length+r.length≤1000000000→aA ctx 372 [.ptr 0 0 0,.ptr 1 0 (0+i*2)] [az false (.pv (aa (out i++r))),tB (row i) 0 1 196] (.pv (.tup [])) [az false (.pv (aa r)),tB (row (i+1)) 0 1 196]) (h0:n≠0):aA ctx 371 [.ptr 0 0 0,.ptr 1 gB off,.bm 372 [.ptr 0 0 0]] [az false (.pv (aa (aT out n n++r))),tB cs gB sB eB] (.pv (.tup [])) [az false (.pv (aa (r))),tB (cs.set off (.sl n (row n))) gB sB eB]:=by
 have hrem:=mh out n r hout n 0 (by omega);have hre:=gR out n r;have hrle:=oC out n r;rw[dj];have hlr:(di out n r 0).length+1≤1000000000:=by
  have:=congrArg List.length (dj out n r);simp only[List.length_append,List.length_cons]at this;omega
 have hnum:=jZ (di out n r 0) [(n:Int)] [0] [.pv (.int .i64 0)] 0 0 3 rfl (by simp) (by simp;omega) (by rfl);have hnum:=cW (E:=[aK [.ptr 1 0 0]]) (cs:=[.int .i64 0]) (cs':=[.int .i64 n]) hnum 1 [3] [tB cs gB sB eB,tB [.int .i64 0] 0 0 3,aK [.ptr 2 0 0]] (by decide) rfl (by simp) (fun _ _=>⟨rfl,trivial⟩) (by rfl) (by simp[cC,Nat.blt]) rfl;have hld:(cs.map AV.pv).getD off .any= .pv .nilsl:=ka ho hv;have hld':(cs.map AV.pv)[off]?.getD AV.any= .pv .nilsl:=by rw[←hld,List.getD]
 have hcsl:(cs.map AV.pv).length=cs.length:=by simp
 have hil:=aU (di out n r 0);have hcc:=aM (cs.set off (.sl n (row n))) 2;have hst:((cs.map AV.pv).set off (.ref 4 0 0 n))[off]?.getD AV.any= .ref 4 0 0 n:=by simp[List.getElem?_set,ho]
 have hsl:((cs.map AV.pv).set off (.ref 4 0 0 n)).length=cs.length:=by simp
 refine aH (C:=ctx) (Fn.of CM rfl) rfl (by simp) rfl (by simp only[aY,az,tB,xB,List.all_cons,List.all_nil,List.length_cons,List.length_nil,Nat.zero_add,Nat.reduceAdd,hcc];rfl) ?_;unfold rS;repeat' (first|((with_reducible first|show aI _|show aP _);simp[vb,hld,hld',hcsl,hil,hst,hsl]<;>omega)|exact(rfl:some _=_)|((fail_if_success refine aZ ?_);refine cu [(10,{val:=some (.pv .nilsl)}),(14,{val:=some (.pv (.tup [])),mem:=some ([az false (.pv (aa (di out n r 0))),tB cs gB sB eB,tB [.int .i64 n] 0 0 3,aK [.ptr 2 0 0]])}),(48,{val:=some (.ref 4 0 0 n)})] ?_;(repeat1' dsimp only[rS,az,aK,tB,xB,aa,Int.toNat_natCast,go_sem]);first|refine ba ?_ ?_ rfl ?_|apply bb|apply bf|(refine bg (fun hc=>?_) fun hc=>?_<;>first|(cases hc;done)|(exfalso;simp[hld,hld',hcsl,hil,hst,hsl]at hc<;>omega)|(try simp only[bn]at hc;try contradiction))|skip))
 all_goals first|exact⟨hld',trivial⟩|exact⟨hnum,trivial⟩|exact⟨hst,trivial⟩|skip
 refine jj n (fun k=>[(50,.pv (.int .i64 k)),(49,.pv (.int .i64 n)),(0,.ptr 0 0 0),(1,.ptr 1 gB off),(2,.bm 372 [.ptr 0 0 0])]) (fun k=>[az false (.pv (aa (di out n r k))),⟨(cs.map .pv).set off (.ref 4 0 0 n),gB,sB+1,eB,false⟩,tB [.int .i64 n] 0 0 3,aK [.ptr 2 0 0],tB (row k) 0 1 196]) (by (repeat' (first|exact trivial|refine And.intro (by first|rfl|(simp[get,Nat.beq]<;>omega)|(dsimp only[get];congr 1<;>first|rfl|omega|(simp<;>omega))) ?_))) (by simp[az,aK,tB,xB,aa,hr0]) fun k hk=>?_
 by_cases hkn:k=n
 ·subst hkn;refine qg (Z:=[tB [.int .i64 k] 0 0 3,aK [.ptr 2 0 0]]) (by rfl) (by rfl) hrl (fun M=>rfl) ?_;rw[hre];repeat' (first|((with_reducible first|show aI _|show aP _);simp[vb]<;>omega)|exact(rfl:some _=_)|((fail_if_success refine aZ ?_);refine bJ ?_;(repeat1' dsimp only[rS,az,aK,tB,xB,aa,go_sem]);first|refine ba ?_ ?_ rfl ?_|apply bb|apply bf|(refine bg (fun hc=>?_) fun hc=>?_<;>first|(cases hc;done)|(exfalso;simp at hc<;>omega)|(try simp only[bn]at hc;try contradiction))|skip))
  all_goals first|exact⟨⟨trivial,rfl⟩,_,rfl⟩|trace_state
 have hrk:=iJ out n r (show k<n by omega);have hek:=he k (by omega) (di out n r (k+1)) (by
  have:=hrle k hk;rw[hrk,List.length_append]at this;omega)
 rw[←hrk]at hek;have hek:=cW (E:=[]) hek 3 [] [⟨(cs.map .pv).set off (.ref 4 0 0 n),gB,sB+1,eB,false⟩,tB [.int .i64 n] 0 0 3,aK [.ptr 2 0 0],tB (row k) 0 1 196] (by decide) rfl (by simp) (fun _ _=>trivial) (by rfl) (by simp[cC,Nat.blt]) rfl;repeat' (first|((with_reducible first|show aI _|show aP _);simp[vb,hst,hsl]<;>omega)|exact(rfl:some _=_)|((fail_if_success refine aZ ?_);refine cu [(56,{val:=some (.ref 4 0 0 n)}),(59,{val:=some (.pv (.tup [])),mem:=some ([az false (.pv (aa (di out n r (k+1)))),⟨(cs.map .pv).set off (.ref 4 0 0 n),gB,sB+1,eB,false⟩,tB [.int .i64 n] 0 0 3,aK [.ptr 2 0 0],tB (row (k+1)) 0 1 196])})] ?_;(repeat1' dsimp only[rS,az,aK,tB,xB,aa,Int.toNat_natCast,go_sem]);first|refine ba ?_ ?_ rfl ?_|apply bb|apply bf|(refine bg (fun hc=>?_) fun hc=>?_<;>first|(cases hc;done)|(exfalso;simp[hst,hsl]at hc<;>omega)|(try simp only[bn]at hc;try contradiction))|skip))
 all_goals first|exact⟨hek,trivial⟩|exact⟨hek,hst,trivial⟩|exact⟨by omega,by (repeat' (first|exact trivial|refine And.intro (by first|rfl|(simp[get,Nat.beq]<;>omega)|(dsimp only[get];congr 1<;>first|rfl|omega|(simp<;>omega))) ?_)),rfl⟩|trace_state
theorem CQ (r:List Int) (off:Nat) (cs:List PV) (gB sB:Nat) (eB:TypeId) (n:Nat) (row:Nat→List PV) (out:Nat→List Int) (ho:off<cs.length) (hv:cs.getD off default= .nilsl) (hr0:row 0=cj [.int .i64 0,.int .i64 0] n) (hrl:(row n).length=n*2) (hout:∀i,i<n→1≤(out i).length) (hl:(aT out n n).length+r.length≤1000000000) (hn:n≤1000000) (he:∀(i:Nat),i<n→∀(r:List Int),(out i).length+r.length≤1000000000→aA ctx 372 [.ptr 0 0 0,.ptr 1 0 (0+i*2)] [az false (.pv (aa (out i++r))),tB (row i) 0 1 196] (.pv (.tup [])) [az false (.pv (aa r)),tB (row (i+1)) 0 1 196]):aA ctx 371 [.ptr 0 0 0,.ptr 1 gB off,.bm 372 [.ptr 0 0 0]] [az false (.pv (aa (aT out n n++r))),tB cs gB sB eB] (.pv (.tup [])) [az false (.pv (aa (r))),tB (cs.set off (.sl n (row n))) gB sB eB]:=by
 by_cases h0:n=0
 ·refine(A3 r off cs gB sB eB n row out ho hv hr0 hrl hout hl hn h0).zF ⟨rfl,fun i a b ha hb=>?_⟩;subst h0;have hrn:row 0=[]:=List.eq_nil_of_length_eq_zero (by simpa using hrl);rw[hrn]at hb;have hw:=oD cs off ho hv;match i with
  |1 =>
   simp only[List.getElem?_cons_succ,List.getElem?_cons_zero,Option.some.injEq]at ha hb;subst ha hb;exact⟨hw,rfl,rfl,rfl,rfl⟩
  |0 =>
   simp only[List.getElem?_cons_zero,Option.some.injEq]at ha hb;subst ha hb;exact BW.refl _
  |i+2 =>
   simp only[List.getElem?_cons_succ]at ha hb;rw[ha]at hb;injection hb with hb
   subst hb;exact BW.refl _
 exact A4 r off cs gB sB eB n row out ho hv hr0 hrl hout hl hn he h0
theorem A5 (r:List Int) (off:Nat) (cs:List PV) (gB sB:Nat) (eB:TypeId) (n:Nat) (row:Nat→List PV) (out:Nat→List Int) (ho:off<cs.length) (hv:cs.getD off default= .nilsl) (hr0:row 0=cj [.nilsl] n) (hrl:(row n).length=n*1) (hout:∀i,i<n→1≤(out i).length) (hl:(aT out n n).length+r.length≤1000000000) (hn:n≤1000000) (h0:n=0):aA ctx 373 [.ptr 0 0 0,.ptr 1 gB off,.bm 374 [.ptr 0 0 0]] [az false (.pv (aa (aT out n n++r))),tB cs gB sB eB] (.pv (.tup [])) [az false (.pv (aa (r))),tB cs gB sB eB]:=by
 have hre:=gR out n r;rw[dj];have hlr:(di out n r 0).length+1≤1000000000:=by
  have:=congrArg List.length (dj out n r);simp only[List.length_append,List.length_cons]at this;omega
 have hnum:=jZ (di out n r 0) [(n:Int)] [0] [.pv (.int .i64 0)] 0 0 3 rfl (by simp) (by simp;omega) (by rfl);have hnum:=cW (E:=[aK [.ptr 1 0 0]]) (cs:=[.int .i64 0]) (cs':=[.int .i64 n]) hnum 1 [3] [tB cs gB sB eB,tB [.int .i64 0] 0 0 3,aK [.ptr 2 0 0]] (by decide) rfl (by simp) (fun _ _=>⟨rfl,trivial⟩) (by rfl) (by simp[cC,Nat.blt]) rfl;have hld:(cs.map AV.pv).getD off .any= .pv .nilsl:=ka ho hv;have hld':(cs.map AV.pv)[off]?.getD AV.any= .pv .nilsl:=by rw[←hld,List.getD]
 have hcsl:(cs.map AV.pv).length=cs.length:=by simp
 have hil:=aU (di out n r 0);have hcc:=aM cs 2;subst h0;rw[hre]at *;refine aH (C:=ctx) (Fn.of CN rfl) rfl (by simp) rfl (by simp only[aY,az,tB,xB,List.all_cons,List.all_nil,List.length_cons,List.length_nil,Nat.zero_add,Nat.reduceAdd,hcc];rfl) ?_;unfold rT;repeat' (first|((with_reducible first|show aI _|show aP _);simp[vb,hld,hld',hcsl,hil]<;>omega)|exact(rfl:some _=_)|((fail_if_success refine aZ ?_);refine cu [(10,{val:=some (.pv .nilsl)}),(14,{val:=some (.pv (.tup [])),mem:=some ([az false (.pv (aa (r))),tB cs gB sB eB,tB [.int .i64 ((0:Nat):Int)] 0 0 3,aK [.ptr 2 0 0]])})] ?_;(repeat1' dsimp only[rT,az,aK,tB,xB,aa,go_sem]);first|refine ba ?_ ?_ rfl ?_|apply bb|apply bf|(refine bg (fun hc=>?_) fun hc=>?_<;>first|(cases hc;done)|(exfalso;simp[hld,hld',hcsl,hil]at hc<;>omega)|(try simp only[bn]at hc;try contradiction))|skip))
 all_goals first|exact⟨hld',trivial⟩|exact⟨hnum,trivial⟩|skip
 exact⟨⟨trivial,rfl⟩,_,rfl⟩
theorem A6 (r:List Int) (off:Nat) (cs:List PV) (gB sB:Nat) (eB:TypeId) (n:Nat) (row:Nat→List PV) (out:Nat→List Int) (ho:off<cs.length) (hv:cs.getD off default= .nilsl) (hr0:row 0=cj [.nilsl] n) (hrl:(row n).length=n*1) (hout:∀i,i<n→1≤(out i).length) (hl:(aT out n n).length+r.length≤1000000000) (hn:n≤1000000) (he:∀(i:Nat),i<n→∀(r:List Int),(out i).length+r.length≤1000000000→aA ctx 374 [.ptr 0 0 0,.ptr 1 0 (0+i*1)] [az false (.pv (aa (out i++r))),tB (row i) 0 0 22] (.pv (.tup [])) [az false (.pv (aa r)),tB (row (i+1)) 0 0 22]) (h0:n≠0):aA ctx 373 [.ptr 0 0 0,.ptr 1 gB off,.bm 374 [.ptr 0 0 0]] [az false (.pv (aa (aT out n n++r))),tB cs gB sB eB] (.pv (.tup [])) [az false (.pv (aa (r))),tB (cs.set off (.sl n (row n))) gB sB eB]:=by
 have hrem:=mh out n r hout n 0 (by omega);have hre:=gR out n r;have hrle:=oC out n r;rw[dj];have hlr:(di out n r 0).length+1≤1000000000:=by
  have:=congrArg List.length (dj out n r);simp only[List.length_append,List.length_cons]at this;omega
 have hnum:=jZ (di out n r 0) [(n:Int)] [0] [.pv (.int .i64 0)] 0 0 3 rfl (by simp) (by simp;omega) (by rfl);have hnum:=cW (E:=[aK [.ptr 1 0 0]]) (cs:=[.int .i64 0]) (cs':=[.int .i64 n]) hnum 1 [3] [tB cs gB sB eB,tB [.int .i64 0] 0 0 3,aK [.ptr 2 0 0]] (by decide) rfl (by simp) (fun _ _=>⟨rfl,trivial⟩) (by rfl) (by simp[cC,Nat.blt]) rfl;have hld:(cs.map AV.pv).getD off .any= .pv .nilsl:=ka ho hv;have hld':(cs.map AV.pv)[off]?.getD AV.any= .pv .nilsl:=by rw[←hld,List.getD]
 have hcsl:(cs.map AV.pv).length=cs.length:=by simp
 have hil:=aU (di out n r 0);have hcc:=aM (cs.set off (.sl n (row n))) 2;have hst:((cs.map AV.pv).set off (.ref 4 0 0 n))[off]?.getD AV.any= .ref 4 0 0 n:=by simp[List.getElem?_set,ho]
 have hsl:((cs.map AV.pv).set off (.ref 4 0 0 n)).length=cs.length:=by simp
 refine aH (C:=ctx) (Fn.of CN rfl) rfl (by simp) rfl (by simp only[aY,az,tB,xB,List.all_cons,List.all_nil,List.length_cons,List.length_nil,Nat.zero_add,Nat.reduceAdd,hcc];rfl) ?_;unfold rT;repeat' (first|((with_reducible first|show aI _|show aP _);simp[vb,hld,hld',hcsl,hil,hst,hsl]<;>omega)|exact(rfl:some _=_)|((fail_if_success refine aZ ?_);refine cu [(10,{val:=some (.pv .nilsl)}),(14,{val:=some (.pv (.tup [])),mem:=some ([az false (.pv (aa (di out n r 0))),tB cs gB sB eB,tB [.int .i64 n] 0 0 3,aK [.ptr 2 0 0]])}),(48,{val:=some (.ref 4 0 0 n)})] ?_;(repeat1' dsimp only[rT,az,aK,tB,xB,aa,Int.toNat_natCast,go_sem]);first|refine ba ?_ ?_ rfl ?_|apply bb|apply bf|(refine bg (fun hc=>?_) fun hc=>?_<;>first|(cases hc;done)|(exfalso;simp[hld,hld',hcsl,hil,hst,hsl]at hc<;>omega)|(try simp only[bn]at hc;try contradiction))|skip))
 all_goals first|exact⟨hld',trivial⟩|exact⟨hnum,trivial⟩|exact⟨hst,trivial⟩|skip
 refine jj n (fun k=>[(50,.pv (.int .i64 k)),(49,.pv (.int .i64 n)),(0,.ptr 0 0 0),(1,.ptr 1 gB off),(2,.bm 374 [.ptr 0 0 0])]) (fun k=>[az false (.pv (aa (di out n r k))),⟨(cs.map .pv).set off (.ref 4 0 0 n),gB,sB+1,eB,false⟩,tB [.int .i64 n] 0 0 3,aK [.ptr 2 0 0],tB (row k) 0 0 22]) (by (repeat' (first|exact trivial|refine And.intro (by first|rfl|(simp[get,Nat.beq]<;>omega)|(dsimp only[get];congr 1<;>first|rfl|omega|(simp<;>omega))) ?_))) (by simp[az,aK,tB,xB,aa,hr0]) fun k hk=>?_
 by_cases hkn:k=n
 ·subst hkn;refine qg (Z:=[tB [.int .i64 k] 0 0 3,aK [.ptr 2 0 0]]) (by rfl) (by rfl) hrl (fun M=>rfl) ?_;rw[hre];repeat' (first|((with_reducible first|show aI _|show aP _);simp[vb]<;>omega)|exact(rfl:some _=_)|((fail_if_success refine aZ ?_);refine bJ ?_;(repeat1' dsimp only[rT,az,aK,tB,xB,aa,go_sem]);first|refine ba ?_ ?_ rfl ?_|apply bb|apply bf|(refine bg (fun hc=>?_) fun hc=>?_<;>first|(cases hc;done)|(exfalso;simp at hc<;>omega)|(try simp only[bn]at hc;try contradiction))|skip))
  all_goals first|exact⟨⟨trivial,rfl⟩,_,rfl⟩|trace_state
 have hrk:=iJ out n r (show k<n by omega);have hek:=he k (by omega) (di out n r (k+1)) (by
  have:=hrle k hk;rw[hrk,List.length_append]at this;omega)
 rw[←hrk]at hek;have hek:=cW (E:=[]) hek 3 [] [⟨(cs.map .pv).set off (.ref 4 0 0 n),gB,sB+1,eB,false⟩,tB [.int .i64 n] 0 0 3,aK [.ptr 2 0 0],tB (row k) 0 0 22] (by decide) rfl (by simp) (fun _ _=>trivial) (by rfl) (by simp[cC,Nat.blt]) rfl;repeat' (first|((with_reducible first|show aI _|show aP _);simp[vb,hst,hsl]<;>omega)|exact(rfl:some _=_)|((fail_if_success refine aZ ?_);refine cu [(56,{val:=some (.ref 4 0 0 n)}),(59,{val:=some (.pv (.tup [])),mem:=some ([az false (.pv (aa (di out n r (k+1)))),⟨(cs.map .pv).set off (.ref 4 0 0 n),gB,sB+1,eB,false⟩,tB [.int .i64 n] 0 0 3,aK [.ptr 2 0 0],tB (row (k+1)) 0 0 22])})] ?_;(repeat1' dsimp only[rT,az,aK,tB,xB,aa,Int.toNat_natCast,go_sem]);first|refine ba ?_ ?_ rfl ?_|apply bb|apply bf|(refine bg (fun hc=>?_) fun hc=>?_<;>first|(cases hc;done)|(exfalso;simp[hst,hsl]at hc<;>omega)|(try simp only[bn]at hc;try contradiction))|skip))
 all_goals first|exact⟨hek,trivial⟩|exact⟨hek,hst,trivial⟩|exact⟨by omega,by (repeat' (first|exact trivial|refine And.intro (by first|rfl|(simp[get,Nat.beq]<;>omega)|(dsimp only[get];congr 1<;>first|rfl|omega|(simp<;>omega))) ?_)),rfl⟩|trace_state
theorem CR (r:List Int) (off:Nat) (cs:List PV) (gB sB:Nat) (eB:TypeId) (n:Nat) (row:Nat→List PV) (out:Nat→List Int) (ho:off<cs.length) (hv:cs.getD off default= .nilsl) (hr0:row 0=cj [.nilsl] n) (hrl:(row n).length=n*1) (hout:∀i,i<n→1≤(out i).length) (hl:(aT out n n).length+r.length≤1000000000) (hn:n≤1000000) (he:∀(i:Nat),i<n→∀(r:List Int),(out i).length+r.length≤1000000000→aA ctx 374 [.ptr 0 0 0,.ptr 1 0 (0+i*1)] [az false (.pv (aa (out i++r))),tB (row i) 0 0 22] (.pv (.tup [])) [az false (.pv (aa r)),tB (row (i+1)) 0 0 22]):aA ctx 373 [.ptr 0 0 0,.ptr 1 gB off,.bm 374 [.ptr 0 0 0]] [az false (.pv (aa (aT out n n++r))),tB cs gB sB eB] (.pv (.tup [])) [az false (.pv (aa (r))),tB (cs.set off (.sl n (row n))) gB sB eB]:=by
 by_cases h0:n=0
 ·refine(A5 r off cs gB sB eB n row out ho hv hr0 hrl hout hl hn h0).zF ⟨rfl,fun i a b ha hb=>?_⟩;subst h0;have hrn:row 0=[]:=List.eq_nil_of_length_eq_zero (by simpa using hrl);rw[hrn]at hb;have hw:=oD cs off ho hv;match i with
  |1 =>
   simp only[List.getElem?_cons_succ,List.getElem?_cons_zero,Option.some.injEq]at ha hb;subst ha hb;exact⟨hw,rfl,rfl,rfl,rfl⟩
  |0 =>
   simp only[List.getElem?_cons_zero,Option.some.injEq]at ha hb;subst ha hb;exact BW.refl _
  |i+2 =>
   simp only[List.getElem?_cons_succ]at ha hb;rw[ha]at hb;injection hb with hb
   subst hb;exact BW.refl _
 exact A6 r off cs gB sB eB n row out ho hv hr0 hrl hout hl hn he h0
end
section
open Tr
def yp:af:=(⟨_,by conv=>(lhs;reduce;try simp only[bD,Int.cast_ofNat_Int,Int.reduceNegSucc,UInt8.reduceOfNat])⟩:{x // codeOf Tryz.prog 374 (fun _=>false)=some x}).1
theorem CS:aD Tryz.prog 374 (fun _=>false)=some (yp,[],8,true):=by kernel_rfl
theorem yq (l:List Int) (g:Nat) (off:Nat) (cs:List PV) (gB sB:Nat) (eB:TypeId) (xs:List Int) (ho:off<cs.length) (hv:cs.getD off default=aa xs) (hl:l.length+(an xs).length≤1000000000) :
  aA ctx 374 [.ptr 0 0 0,.ptr 2 gB off] [az true (.ref 1 (g) 0 (l).length),nB (l) (g),tB cs gB sB eB] (.pv (.tup [])) [az true (.ref 1 (g+(an xs).length) 0 (l++an xs).length),nB (l++an xs) (g+(an xs).length),tB cs gB sB eB]:=by
 have hacc:aT (fun i=>[xs.getD i 0]) xs.length xs.length=an xs:=by
  unfold aT an;congr 1;have:∀k,k≤xs.length→(List.range k).flatMap (fun i=>[xs.getD i 0])=xs.take k:=fun k=>by
   induction k with
   |zero=>intro _;rfl
   |succ k ih =>
    intro hk;have:=jY [] xs k (by omega);simp only[List.nil_append]at this;rw[List.range_succ,List.flatMap_append,ih (by omega),this];rfl
  rw[this _ (Nat.le_refl _),List.take_length]
 have hls:=AS l g off cs gB sB eB xs.length (xs.map (.int .i64)) (fun i=>[xs.getD i 0]) ho hv (by simp) (by rw[hacc];exact hl) (by simp[an]at hl;omega) fun i hi l g hb =>
  Ht l g (xs.map (.int .i64)) (i*1) (xs.getD i 0) cs gB sB eB (by simp;omega) (by rw[Nat.mul_one,Nat.add_zero,List.getD];exact ints_at xs i hi) (by simpa using hb)
 rw[hacc]at hls;have hno:=eo (l++an xs) 3;have hcc:=aM cs 3;refine aH (C:=ctx) (Fn.of CS rfl) rfl (by simp) rfl (by simp only[aY,az,nB,tB,xB,List.all_cons,List.all_nil,List.length_cons,List.length_nil,Nat.zero_add,Nat.reduceAdd,hcc,hno];rfl) ?_;unfold yp;repeat' (first|((with_reducible first|show aI _|show aP _);simp[vb]<;>omega)|exact(rfl:some _=_)|((fail_if_success refine aZ ?_);refine cu [(7,{val:=some (.pv (.tup [])),mem:=some ([az true (.ref 1 (g+(an xs).length) 0 (l++an xs).length),nB (l++an xs) (g+(an xs).length),tB cs gB sB eB,xB 0])})] ?_;(repeat1' dsimp only[yp,az,nB,aK,tB,xB,go_sem]);first|refine ba ?_ ?_ rfl ?_|apply bb|apply bf|(refine bg (fun hc=>?_) fun hc=>?_<;>first|(cases hc;done)|(exfalso;simp at hc<;>omega)|(try simp only[bn]at hc;try contradiction))|skip))
 all_goals first|exact⟨hls,trivial⟩|exact⟨⟨trivial,rfl⟩,_,rfl⟩
theorem JE (l:List Int) (g:Nat) (c:List PV) (off:Nat) (cs:List PV) (gB sB:Nat) (eB:TypeId) (xs:List Int) (ho:off<c.length) (hv:c.getD off default=aa xs) (hl:l.length+(an xs).length≤1000000000) :
  aA ctx 374 [.ptr 0 0 0,.iptr c off] [az true (.ref 1 (g) 0 (l).length),nB (l) (g),tB cs gB sB eB] (.pv (.tup [])) [az true (.ref 1 (g+(an xs).length) 0 (l++an xs).length),nB (l++an xs) (g+(an xs).length),tB cs gB sB eB]:=by
 have hacc:aT (fun i=>[xs.getD i 0]) xs.length xs.length=an xs:=by
  unfold aT an;congr 1;have:∀k,k≤xs.length→(List.range k).flatMap (fun i=>[xs.getD i 0])=xs.take k:=fun k=>by
   induction k with
   |zero=>intro _;rfl
   |succ k ih =>
    intro hk;have:=jY [] xs k (by omega);simp only[List.nil_append]at this;rw[List.range_succ,List.flatMap_append,ih (by omega),this];rfl
  rw[this _ (Nat.le_refl _),List.take_length]
 have hls:=AT l g c off cs gB sB eB xs.length (xs.map (.int .i64)) (fun i=>[xs.getD i 0]) ho hv (by simp) (by rw[hacc];exact hl) (by simp[an]at hl;omega) fun i hi l g hb =>
  Ht l g (xs.map (.int .i64)) (i*1) (xs.getD i 0) cs gB sB eB (by simp;omega) (by rw[Nat.mul_one,Nat.add_zero,List.getD];exact ints_at xs i hi) (by simpa using hb)
 rw[hacc]at hls;have hno:=eo (l++an xs) 3;have hcc:=aM cs 3;refine aH (C:=ctx) (Fn.of CS rfl) rfl (by simp) rfl (by simp only[aY,az,nB,tB,xB,List.all_cons,List.all_nil,List.length_cons,List.length_nil,Nat.zero_add,Nat.reduceAdd,hcc,hno];rfl) ?_;unfold yp;repeat' (first|((with_reducible first|show aI _|show aP _);simp[vb]<;>omega)|exact(rfl:some _=_)|((fail_if_success refine aZ ?_);refine cu [(7,{val:=some (.pv (.tup [])),mem:=some ([az true (.ref 1 (g+(an xs).length) 0 (l++an xs).length),nB (l++an xs) (g+(an xs).length),tB cs gB sB eB,xB 0])})] ?_;(repeat1' dsimp only[yp,az,nB,aK,tB,xB,go_sem]);first|refine ba ?_ ?_ rfl ?_|apply bb|apply bf|(refine bg (fun hc=>?_) fun hc=>?_<;>first|(cases hc;done)|(exfalso;simp at hc<;>omega)|(try simp only[bn]at hc;try contradiction))|skip))
 all_goals first|exact⟨hls,trivial⟩|exact⟨⟨trivial,rfl⟩,_,rfl⟩
def pQ (xs:List Int) (i:Nat):List PV:=(xs.take i).map (.int .i64)++cj [.int .i64 0] (xs.length-i)
theorem mi (z:PV):∀n,cj [z] n=List.replicate n z
 |0=>rfl
 |n+1=>by rw[cj,mi z n];rfl
theorem CT (xs:List Int) (i:Nat) (h:i<xs.length):(pQ xs i).set i (.int .i64 (xs.getD i 0))=pQ xs (i+1):=by
 have h1:((xs.take i).map (PV.int .i64)).length=i:=by simp;omega
 have h2:=jY [] xs i h;simp only[List.nil_append]at h2;unfold pQ;rw[List.set_append_right _ _ (by omega),h1,Nat.sub_self,mi,mi,show xs.length-i=(xs.length-(i+1))+1 by omega,List.replicate_succ,List.set_cons_zero,h2,List.map_append,List.append_assoc];rfl
theorem zG (r:List Int) (off:Nat) (cs:List PV) (gB sB:Nat) (eB:TypeId) (xs:List Int) (ho:off<cs.length) (hv:cs.getD off default= .nilsl) (hl:(an xs).length+r.length≤1000000000) (hx:xs.length≤1000000) :
  aA ctx 374 [.ptr 0 0 0,.ptr 1 gB off] [az false (.pv (aa (an xs++r))),tB cs gB sB eB] (.pv (.tup [])) [az false (.pv (aa (r))),tB (cs.set off (aa xs)) gB sB eB]:=by
 have hacc:aT (fun i=>[xs.getD i 0]) xs.length xs.length=an xs:=by
  unfold aT an;congr 1;have:∀k,k≤xs.length→(List.range k).flatMap (fun i=>[xs.getD i 0])=xs.take k:=fun k=>by
   induction k with
   |zero=>intro _;rfl
   |succ k ih =>
    intro hk;have:=jY [] xs k (by omega);simp only[List.nil_append]at this;rw[List.range_succ,List.flatMap_append,ih (by omega),this];rfl
  rw[this _ (Nat.le_refl _),List.take_length]
 have hz:pQ xs xs.length=xs.map (.int .i64):=by simp[pQ,cj]
 have hls:=CO r off cs gB sB eB xs.length (pQ xs) (fun i=>[xs.getD i 0]) ho hv (by simp[pQ]) (by rw[hz];simp) (fun _ _=>by simp) (by rw[hacc];exact hl) hx fun i hi r hb=>by
  have h1:=Oh r (0+i*1) (xs.getD i 0) (pQ xs i) 0 0 3 (by simp[pQ,mi];omega) (by simp at hb;omega);have h2:gQ (pQ xs i) [0+i*1+0] [xs.getD i 0]=pQ xs (i+1):=by
   show(pQ xs i).set (0+i*1+0) (.int .i64 (xs.getD i 0))=_;rw[Nat.mul_one,Nat.zero_add,Nat.add_zero];exact CT xs i hi
  rw[h2]at h1;exact h1
 rw[hacc,hz]at hls;have hcc:=aM (cs.set off (aa xs)) 2;unfold aa at hcc;refine aH (C:=ctx) (Fn.of CS rfl) rfl (by simp) rfl (by simp only[aY,az,tB,xB,aa,List.all_cons,List.all_nil,List.length_cons,List.length_nil,Nat.zero_add,Nat.reduceAdd,hcc];rfl) ?_;unfold yp;repeat' (first|((with_reducible first|show aI _|show aP _);simp[vb]<;>omega)|exact(rfl:some _=_)|((fail_if_success refine aZ ?_);refine cu [(7,{val:=some (.pv (.tup [])),mem:=some ([az false (.pv (aa (r))),tB (cs.set off (aa xs)) gB sB eB,xB 0])})] ?_;(repeat1' dsimp only[yp,az,nB,aK,tB,xB,go_sem]);first|refine ba ?_ ?_ rfl ?_|apply bb|apply bf|(refine bg (fun hc=>?_) fun hc=>?_<;>first|(cases hc;done)|(exfalso;simp at hc<;>omega)|(try simp only[bn]at hc;try contradiction))|skip))
 all_goals first|exact⟨hls,trivial⟩|exact⟨⟨trivial,rfl⟩,_,rfl⟩
end
section
def Mm:af:=(⟨_,by conv=>(lhs;reduce;try simp only[bD,Int.cast_ofNat_Int,Int.reduceNegSucc,UInt8.reduceOfNat])⟩:{x // codeOf Tryz.prog 26 (fun _=>false)=some x}).1
theorem Mn:aD Tryz.prog 26 (fun _=>false)=some (Mm,[.t 2],26,true):=by kernel_rfl
def JF:af:=(⟨_,by conv=>(lhs;reduce;try simp only[bD,Int.cast_ofNat_Int,Int.reduceNegSucc,UInt8.reduceOfNat])⟩:{x // codeOf Tryz.prog 77 (fun _=>false)=some x}).1
theorem JG:aD Tryz.prog 77 (fun _=>false)=some (JF,[.t 2],25,true):=by kernel_rfl
def Oi:af:=(⟨_,by conv=>(lhs;reduce;try simp only[bD,Int.cast_ofNat_Int,Int.reduceNegSucc,UInt8.reduceOfNat])⟩:{x // codeOf Tryz.prog 34 (fun _=>false)=some x}).1
theorem Oj:aD Tryz.prog 34 (fun _=>false)=some (Oi,[.t 2],5,true):=by kernel_rfl
theorem pE:IntKind.u8.min=0:=rfl
theorem pF:IntKind.u8.max=255:=rfl
theorem CU {n:Int} (h0:0≤n) (h1:n≤255):IntKind.u8.wrap n=n:=IntWalk.u8_in n (by omega)
theorem mj (f:Nat):∀n:Nat,n<f→n≤9223372036854775807→ah ctx 26 [.int .i64 n] (.str (Lib.decDigits n)):=by
 induction f with
 |zero=>intro n h;omega
 |succ f ih =>
  intro n hf hn;by_cases h10:n<10
  ·have hv:Lib.decDigits n=[UInt8.ofNat (48+n)]:=Lib.decDigits_one h10;refine aj (C:=ctx) (Fn.of Mn rfl) rfl ?_;unfold Mm;repeat' (first|((with_reducible first|show aI _|show aP _);(try dsimp only[go_sem]);first|(simp[vb,h10,pE,pF]<;>omega)|(simp only[vb,and_true,true_implies];(repeat' (first|(with_reducible assumption)|(with_reducible apply And.intro)|intro _|((fail_if_success (with_reducible show(_:Int)≤_));assumption)))<;>first|omega|(simp only[ab,h10,pE,pF];done)|(simp[h10,pE,pF]<;>omega)))|exact(rfl:some _=_)|((fail_if_success refine aZ ?_);refine bJ ?_;(repeat1' dsimp only[Mm,go_sem]);first|refine ba ?_ ?_ rfl ?_|apply bb|apply bf|(refine bg (fun hc=>?_) fun hc=>?_<;>first|(cases hc;done)|(exfalso;simp[h10,pE,pF]at hc<;>omega)|(try simp only[bn]at hc;try contradiction))|skip))
   all_goals rw[hv,CU (by omega) (by omega),show(48+(n:Int)).toNat=48+n by omega]
  have hx:=ih (n / 10) (by omega) (by omega);have hlen:=Lib.decDigits_length (n / 10);have hl2:=Lib.nDigits_le20 (n / 10) (by omega);have hq:(n:Int) / 10=((n / 10:Nat):Int):=rfl;generalize hD:Lib.decDigits (n / 10)=D at *;refine aj (C:=ctx) (Fn.of Mn rfl) rfl ?_;unfold Mm;repeat' (first|((with_reducible first|show aI _|show aP _);(try dsimp only[go_sem]);first|(simp[vb,h10,hx,hlen,hl2,pE,pF]<;>omega)|(simp only[vb,and_true,true_implies];(repeat' (first|(with_reducible assumption)|(with_reducible apply And.intro)|intro _|((fail_if_success (with_reducible show(_:Int)≤_));assumption)))<;>first|omega|(simp only[ab,h10,hx,hlen,hl2,pE,pF];done)|(simp[h10,hx,hlen,hl2,pE,pF]<;>omega)))|exact(rfl:some _=_)|((fail_if_success refine aZ ?_);refine lA [(26,fun _=>some (.str D))] ?_;(repeat1' dsimp only[Mm,go_sem]);first|refine ba ?_ ?_ rfl ?_|apply bb|apply bf|(refine bg (fun hc=>?_) fun hc=>?_<;>first|(cases hc;done)|(exfalso;simp[h10,hx,hlen,hl2,pE,pF]at hc<;>omega)|(try simp only[bn]at hc;try contradiction))|skip))
  rw[CU (by omega) (by omega),show(48+(n:Int) % 10).toNat=48+n % 10 by omega,←hD];conv=>rhs;rw[Lib.decDigits,dif_neg h10]
theorem qh (n:Nat) (h:n≤10000000000000000000):(Lib.decDigits n).length≤20:=by
 rw[Lib.decDigits_length];exact Lib.nDigits_le20 n (by omega)
theorem dk (n:Int) (h0: -9223372036854775808≤n) (h1:n≤9223372036854775807):(Lib.itoa n).length≤21:=by
 have hl:=qh n.natAbs (by omega);unfold Lib.itoa;split
 ·rw[List.length_cons];omega
 rw[show n.toNat=n.natAbs by omega];omega
theorem uR (f:Nat):∀n:Int,n.natAbs<f→ -9223372036854775808≤n→n≤9223372036854775807→ah ctx 77 [.int .i64 n] (.str (Lib.itoa n)):=by
 induction f with
 |zero=>intro n h;omega
 |succ f ih =>
  intro n hf h0 h1;by_cases hn:n<0
  ·have hv:Lib.itoa n=45::Lib.decDigits n.natAbs:=by unfold Lib.itoa;rw[if_pos hn]
   by_cases h10: -10<n
   ·have hx:=mj (n.natAbs+1) n.natAbs (by omega) (by omega);rw[show((n.natAbs:Nat):Int)= -n by omega]at hx;have hl:=qh n.natAbs (by omega);rw[hv];generalize Lib.decDigits n.natAbs=D at *;refine aj (C:=ctx) (Fn.of JG rfl) rfl ?_;unfold JF;repeat' (first|((with_reducible first|show aI _|show aP _);(try dsimp only[go_sem]);first|(simp[vb,hn,h10,hx,hl,h0]<;>omega)|(simp only[vb,and_true,true_implies];(repeat' (first|(with_reducible assumption)|(with_reducible apply And.intro)|intro _|((fail_if_success (with_reducible show(_:Int)≤_));assumption)))<;>first|omega|(simp only[ab,hn,h10,hx,hl,h0];done)|(simp[hn,h10,hx,hl,h0]<;>omega)))|exact(rfl:some _=_)|((fail_if_success refine aZ ?_);refine lA [(26,fun _=>some (.str D))] ?_;(repeat1' dsimp only[JF,go_sem]);first|refine ba ?_ ?_ rfl ?_|apply bb|apply bf|(refine bg (fun hc=>?_) fun hc=>?_<;>first|(cases hc;done)|(exfalso;simp[hn,h10,hx,hl,h0]at hc<;>omega)|(try simp only[bn]at hc;try contradiction))|skip))
   have hm:n= -(n.natAbs:Int):=by omega
   have hq:n.tdiv 10= -((n.natAbs / 10:Nat):Int):=by
    conv=>lhs;rw[hm]
    rw[Int.neg_tdiv];rfl
   have hr:n.tmod 10= -((n.natAbs % 10:Nat):Int):=by
    conv=>lhs;rw[hm]
    rw[Int.neg_tmod];rfl
   clear hm;have hx:=ih (n.tdiv 10) (by omega) (by omega) (by omega);have hy:=mj (n.natAbs % 10+1) (n.natAbs % 10) (by omega) (by omega);have hv2:Lib.itoa (n.tdiv 10)=45::Lib.decDigits (n.natAbs / 10):=by unfold Lib.itoa;rw[if_pos (by omega),show(n.tdiv 10).natAbs=n.natAbs / 10 by omega]
   have hd:Lib.decDigits n.natAbs=Lib.decDigits (n.natAbs / 10)++Lib.decDigits (n.natAbs % 10):=by
    rw[Lib.decDigits_one (show n.natAbs % 10<10 by omega)];conv=>lhs;rw[Lib.decDigits,dif_neg (by omega)]
   have hl:=qh (n.natAbs / 10) (by omega);have hl2:=qh (n.natAbs % 10) (by omega);rw[hv2]at hx;rw[hv,hd];have hw:=iH (n:=n.tdiv 10) (by unfold ub;omega) (by unfold lE;omega);rw[show((n.natAbs % 10:Nat):Int)= -n.tmod 10 by omega]at hy;generalize Lib.decDigits (n.natAbs / 10)=D at *;generalize Lib.decDigits (n.natAbs % 10)=E at *;refine aj (C:=ctx) (Fn.of JG rfl) rfl ?_;unfold JF;repeat' (first|((with_reducible first|show aI _|show aP _);(try dsimp only[go_sem]);first|(simp[vb,hn,h10,hx,hy,hl,hl2,h0,hw]<;>omega)|(simp only[vb,and_true,true_implies];(repeat' (first|(with_reducible assumption)|(with_reducible apply And.intro)|intro _|((fail_if_success (with_reducible show(_:Int)≤_));assumption)))<;>first|omega|(simp only[ab,hn,h10,hx,hy,hl,hl2,h0,hw];done)|(simp[hn,h10,hx,hy,hl,hl2,h0,hw]<;>omega)))|exact(rfl:some _=_)|((fail_if_success refine aZ ?_);refine dS [(77,fun _=>some (.str (45::D))),(26,fun _=>some (.str E))] [(16,{mode:=1}),(19,{mode:=1})] ?_;(repeat1' dsimp only[JF,go_sem]);first|refine ba ?_ ?_ rfl ?_|apply bb|apply bf|(refine bg (fun hc=>?_) fun hc=>?_<;>first|(cases hc;done)|(exfalso;simp[hn,h10,hx,hy,hl,hl2,h0,hw]at hc<;>omega)|(try simp only[bn]at hc;try contradiction))|skip))
  have hx:=mj (n.natAbs+1) n.natAbs (by omega) (by omega);rw[show((n.natAbs:Nat):Int)=n by omega]at hx;have hv:Lib.itoa n=Lib.decDigits n.natAbs:=by unfold Lib.itoa;rw[if_neg hn,show n.toNat=n.natAbs by omega]
  rw[hv];generalize Lib.decDigits n.natAbs=D at *;refine aj (C:=ctx) (Fn.of JG rfl) rfl ?_;unfold JF;repeat' (first|((with_reducible first|show aI _|show aP _);(try dsimp only[go_sem]);first|(simp[vb,hn,hx]<;>omega)|(simp only[vb,and_true,true_implies];(repeat' (first|(with_reducible assumption)|(with_reducible apply And.intro)|intro _|((fail_if_success (with_reducible show(_:Int)≤_));assumption)))<;>first|omega|(simp only[ab,hn,hx];done)|(simp[hn,hx]<;>omega)))|exact(rfl:some _=_)|((fail_if_success refine aZ ?_);refine lA [(26,fun _=>some (.str D))] ?_;(repeat1' dsimp only[JF,go_sem]);first|refine ba ?_ ?_ rfl ?_|apply bb|apply bf|(refine bg (fun hc=>?_) fun hc=>?_<;>first|(cases hc;done)|(exfalso;simp[hn,hx]at hc<;>omega)|(try simp only[bn]at hc;try contradiction))|skip))
theorem fw (n:Int) (h0: -9223372036854775808≤n) (h1:n≤9223372036854775807):ah ctx 34 [.int .i64 n] (.str (Lib.itoa n)):=by
 have hx:=uR (n.natAbs+1) n (by omega) h0 h1;generalize Lib.itoa n=D at *;refine aj (C:=ctx) (Fn.of Oj rfl) rfl ?_;unfold Oi;repeat' (first|((with_reducible first|show aI _|show aP _);(try dsimp only[go_sem]);first|(simp[vb,hx]<;>omega)|(simp only[vb,and_true,true_implies];(repeat' (first|(with_reducible assumption)|(with_reducible apply And.intro)|intro _|((fail_if_success (with_reducible show(_:Int)≤_));assumption)))<;>first|omega|(simp only[ab,hx];done)|(simp[hx]<;>omega)))|exact(rfl:some _=_)|((fail_if_success refine aZ ?_);refine lA [(77,fun _=>some (.str D))] ?_;(repeat1' dsimp only[Oi,go_sem]);first|refine ba ?_ ?_ rfl ?_|apply bb|apply bf|(refine bg (fun hc=>?_) fun hc=>?_<;>first|(cases hc;done)|(exfalso;simp[hx]at hc<;>omega)|(try simp only[bn]at hc;try contradiction))|skip))
end
section
def mH:af:=(⟨_,by conv=>(lhs;reduce;try simp only[bD,Int.cast_ofNat_Int,Int.reduceNegSucc,UInt8.reduceOfNat])⟩:{x // codeOf Tryz.prog 422 (fun _=>false)=some x}).1
theorem Mo:aD Tryz.prog 422 (fun _=>false)=some (mH,[],93,true):=by kernel_rfl
def JH:af:=(⟨_,by conv=>(lhs;reduce;try simp only[bD,Int.cast_ofNat_Int,Int.reduceNegSucc,UInt8.reduceOfNat])⟩:{x // codeOf Tryz.prog 391 (fun _=>false)=some x}).1
theorem Mp:aD Tryz.prog 391 (fun _=>false)=some (JH,[.t 2],6,true):=by kernel_rfl
def Mq:af:=(⟨_,by conv=>(lhs;reduce;try simp only[bD,Int.cast_ofNat_Int,Int.reduceNegSucc,UInt8.reduceOfNat])⟩:{x // codeOf Tryz.prog 332 (fun _=>false)=some x}).1
theorem Mr:aD Tryz.prog 332 (fun _=>false)=some (Mq,[.cell 2 1 false],26,true):=by kernel_rfl
def JI:af:=(⟨_,by conv=>(lhs;reduce;try simp only[bD,Int.cast_ofNat_Int,Int.reduceNegSucc,UInt8.reduceOfNat])⟩:{x // codeOf Tryz.prog 240 (fun _=>false)=some x}).1
theorem Ms:aD Tryz.prog 240 (fun _=>false)=some (JI,[.t 2],11,true):=by kernel_rfl
def yr (s:List UInt8):Prop:=s=[99]∨s=[117,112]
section
variable {σ:Type} (X:EW σ) (k:σ)
theorem Fm {s:List UInt8} (hs:yr s):ah ((xo X).C k) 423 [.str s] (.int .i64 0):=by
 rcases hs with rfl|rfl
 ·exact fk (gW X k) (fR (gW X k) 100) (by kernel_rfl)
 exact fk (gW X k) (fR (gW X k) 100) (by kernel_rfl)
theorem A7 {s:List UInt8} (hs:yr s):ah ((xo X).C k) 424 [.int .u8 (s.getD 0 0).toNat] (.bool true):=by
 rcases hs with rfl|rfl
 ·exact fk (gW X k) (fR (gW X k) 100) (by kernel_rfl)
 exact fk (gW X k) (fR (gW X k) 100) (by kernel_rfl)
theorem JJ {s:List UInt8} (hs:yr s):ah ((xo X).C k) 425 [.str s,.val (.func (.func 426) #[] #[])] (.int .i64 s.length):=by
 rcases hs with rfl|rfl
 ·exact fk (gW X k) (fR (gW X k) 100) (by kernel_rfl)
 exact fk (gW X k) (fR (gW X k) 100) (by kernel_rfl)
end
def Ek (s:List UInt8):dI:=⟨[.pv (.str s)],0,1,9,false⟩
def El:dI:=⟨[.pv (.mp EX)],0,1,266,false⟩
theorem A8 (s:List UInt8) (μ:AM) (hμ:aY (μ++[Ek s,El]) (μ++[Ek s,El]).length=true):aA ctx 391 [.pv (.str s)] μ (.fn 422 [.ptr μ.length 0 0,.ptr (μ.length+1) 0 0]) (μ++[Ek s,El]):=by
 have h1:=K2;generalize hkw:EX=kw at h1;refine aH (C:=ctx) (Fn.of Mp rfl) rfl (by simp) (by simp[cC,Nat.blt]) hμ ?_;unfold JH;iterate 6 first
  |refine⟨by simp[vb,h1]<;>omega,by simp[vb,h1]<;>omega,?_⟩
  |(refine lA [(421,fun _=>some (.mp kw))] ?_;iterate 2 (try simp only[aF,aw,ax,ay,aE,mem_set,aL,go_sem]))
 repeat' (first|((with_reducible first|show aI _|show aP _);simp[vb]<;>omega)|exact(rfl:some _=_)|((fail_if_success refine aZ ?_);refine bJ ?_;(repeat1' dsimp only[JH,go_sem]);first|refine ba ?_ ?_ rfl ?_|apply bb|apply bf|(refine bg (fun hc=>?_) fun hc=>?_<;>first|(cases hc;done)|(exfalso;simp at hc<;>omega)|(try simp only[bn]at hc;try contradiction))|skip))
 exact⟨⟨trivial,rfl⟩,[],by simp[Ek,El,hkw]⟩
theorem Fp:bj .str (EX.map .pv)=true:=by kernel_rfl
theorem JK {s:List UInt8} (hs:yr s):bN (EX.map .pv) (.str s) (.pv (.bool false))= .pv (.bool false):=by
 rcases hs with rfl|rfl<;>kernel_rfl
def CV (n:Nat):List PV:=[.int .i64 1,.int .i64 0,.int .i64 0,.int .i64 n]
theorem Fq {σ:Type} {X:EW σ} (l:Nat) {s:List UInt8} (hs:yr s) (k k1:σ) (hY:∀μ,Ch (xo X) l [.pv (.agg (CV s.length))] k μ (.pv (.bool false)) k1 μ) :
  KJ (xo X) 422 [.pv (.val (.func (.yield l) #[] #[])),.iptr [.str s] 0,.iptr [.mp EX] 0] k [] (.pv (.tup [])) k1 []:=by
 have x1:=Fm X k hs;have x2:=A7 X k hs;have x3:=JJ X k hs;have k1':=Fp;have k2':=JK hs;generalize EX=kw at *;refine H4 (F:=xo X) (k:=k) (Fn.of (C:=(xo X).C k) Mo rfl) rfl (Nat.le_refl _) rfl rfl ?_;unfold mH;refine ez (dB ?_);refine bJ ?_;dsimp only[fe,go_sem];try dsimp only[fe,go_sem]
 refine⟨(by simp[vb]<;>omega),(by simp[vb]<;>omega),?_⟩;refine tI (Cg (fun j k' f' μ'=>k'=k∧Sub [(0,.pv (.val (.func (.yield l) #[] #[]))),(1,.iptr [.str s] 0),(2,.iptr [.mp kw] 0),(4,.pv (.int .i64 0))] f'∧μ'=[]) ?_ 1 ⟨rfl,by (repeat' (first|exact trivial|refine And.intro (by first|rfl|(simp[get,Nat.beq]<;>omega)|(dsimp only[get];congr 1<;>first|rfl|omega|(simp<;>omega))) ?_)),rfl⟩);rintro j k' f' μ' ⟨rfl,hf,rfl⟩;refine Az _ hf ?_;clear hf f';refine tI ?_;rcases hs with rfl|rfl
 ·refine ez (dB ?_);repeat' (first|((with_reducible first|show aI _|show aP _);simp[vb,x1]<;>omega)|exact(rfl:some _=_)|((fail_if_success refine aZ ?_);refine lA [(423,fun _=>some (.int .i64 0))] ?_;(repeat1' dsimp only[mH,fe,ed,go_sem]);first|refine ba ?_ ?_ rfl ?_|apply bb|apply bf|(refine bg (fun hc=>?_) fun hc=>?_<;>first|(cases hc;done)|(exfalso;simp[x1]at hc<;>omega)|(try simp only[bn]at hc;try contradiction))|skip))
  refine ez (dB ?_);repeat' (first|((with_reducible first|show aI _|show aP _);simp[vb]<;>omega)|exact(rfl:some _=_)|((fail_if_success refine aZ ?_);refine bJ ?_;(repeat1' dsimp only[mH,fe,ed,go_sem]);first|refine ba ?_ ?_ rfl ?_|apply bb|apply bf|(refine bg (fun hc=>?_) fun hc=>?_<;>first|(cases hc;done)|(exfalso;simp at hc<;>omega)|(try simp only[bn]at hc;try contradiction))|skip))
  refine ez (dB ?_);repeat' (first|((with_reducible first|show aI _|show aP _);simp[vb]<;>omega)|exact(rfl:some _=_)|((fail_if_success refine aZ ?_);refine bJ ?_;(repeat1' dsimp only[mH,fe,ed,go_sem]);first|refine ba ?_ ?_ rfl ?_|apply bb|apply bf|(refine bg (fun hc=>?_) fun hc=>?_<;>first|(cases hc;done)|(exfalso;simp at hc<;>omega)|(try simp only[bn]at hc;try contradiction))|skip))
  refine ez (dB ?_);repeat' (first|((with_reducible first|show aI _|show aP _);simp[vb,x2,x3,k1',k2']<;>omega)|exact(rfl:some _=_)|((fail_if_success refine aZ ?_);refine dS [(424,fun _=>some (.bool true)),(425,fun _=>some (.int .i64 1))] [ξ 61 (.bool false)] ?_;(repeat1' dsimp only[mH,fe,ed,go_sem]);first|refine ba ?_ ?_ rfl ?_|apply bb|apply bf|(refine bg (fun hc=>?_) fun hc=>?_<;>first|(cases hc;done)|(exfalso;simp[x2,x3,k1',k2']at hc<;>omega)|(try simp only[bn]at hc;try contradiction))|skip))
  ·exact⟨x2,trivial⟩
  refine ez (dB ?_);repeat' (first|((with_reducible first|show aI _|show aP _);simp[vb]<;>omega)|exact(rfl:some _=_)|((fail_if_success refine aZ ?_);refine bJ ?_;(repeat1' dsimp only[mH,fe,ed,go_sem]);first|refine ba ?_ ?_ rfl ?_|apply bb|apply bf|(refine bg (fun hc=>?_) fun hc=>?_<;>first|(cases hc;done)|(exfalso;simp at hc<;>omega)|(try simp only[bn]at hc;try contradiction))|skip))
  refine ez (dB ?_);repeat' (first|((with_reducible first|show aI _|show aP _);simp[vb]<;>omega)|exact(rfl:some _=_)|((fail_if_success refine aZ ?_);refine bJ ?_;(repeat1' dsimp only[mH,fe,ed,go_sem]);first|refine ba ?_ ?_ rfl ?_|apply bb|apply bf|(refine bg (fun hc=>?_) fun hc=>?_<;>first|(cases hc;done)|(exfalso;simp at hc<;>omega)|(try simp only[bn]at hc;try contradiction))|skip))
  refine ez ?_;refine zm 2 [] [] ?_;simp only[zl,List.take_succ_cons,List.take_zero,List.drop_succ_cons,List.drop_zero,List.getElem?_cons_succ,List.getElem?_cons_zero,go_sem,B4,fe,ed];refine⟨by simp[aI],trivial,trivial,.pv (.bool false),k1,_,.inr ⟨.t 84,[.t 85],l,rfl,rfl,hY _⟩,?_⟩;simp only[go_sem,fe,ed];refine⟨by simp[aI],by simp[aP],?_⟩;refine wE (t:=true) rfl ?_;rw[cond_true];refine dB ?_;repeat' (first|((with_reducible first|show aI _|show aP _);simp[vb]<;>omega)|exact(rfl:some _=_)|((fail_if_success refine aZ ?_);refine bJ ?_;(repeat1' dsimp only[mH,fe,ed,H3,go_sem]);first|refine ba ?_ ?_ rfl ?_|apply bb|apply bf|(refine bg (fun hc=>?_) fun hc=>?_<;>first|(cases hc;done)|(exfalso;simp at hc<;>omega)|(try simp only[bn]at hc;try contradiction))|skip))
  exact⟨rfl,[],_,rfl,trivial,rfl⟩
 refine ez (dB ?_);repeat' (first|((with_reducible first|show aI _|show aP _);simp[vb,x1]<;>omega)|exact(rfl:some _=_)|((fail_if_success refine aZ ?_);refine lA [(423,fun _=>some (.int .i64 0))] ?_;(repeat1' dsimp only[mH,fe,ed,go_sem]);first|refine ba ?_ ?_ rfl ?_|apply bb|apply bf|(refine bg (fun hc=>?_) fun hc=>?_<;>first|(cases hc;done)|(exfalso;simp[x1]at hc<;>omega)|(try simp only[bn]at hc;try contradiction))|skip))
 refine ez (dB ?_);repeat' (first|((with_reducible first|show aI _|show aP _);simp[vb]<;>omega)|exact(rfl:some _=_)|((fail_if_success refine aZ ?_);refine bJ ?_;(repeat1' dsimp only[mH,fe,ed,go_sem]);first|refine ba ?_ ?_ rfl ?_|apply bb|apply bf|(refine bg (fun hc=>?_) fun hc=>?_<;>first|(cases hc;done)|(exfalso;simp at hc<;>omega)|(try simp only[bn]at hc;try contradiction))|skip))
 refine ez (dB ?_);repeat' (first|((with_reducible first|show aI _|show aP _);simp[vb]<;>omega)|exact(rfl:some _=_)|((fail_if_success refine aZ ?_);refine bJ ?_;(repeat1' dsimp only[mH,fe,ed,go_sem]);first|refine ba ?_ ?_ rfl ?_|apply bb|apply bf|(refine bg (fun hc=>?_) fun hc=>?_<;>first|(cases hc;done)|(exfalso;simp at hc<;>omega)|(try simp only[bn]at hc;try contradiction))|skip))
 refine ez (dB ?_);repeat' (first|((with_reducible first|show aI _|show aP _);simp[vb,x2,x3,k1',k2']<;>omega)|exact(rfl:some _=_)|((fail_if_success refine aZ ?_);refine dS [(424,fun _=>some (.bool true)),(425,fun _=>some (.int .i64 2))] [ξ 61 (.bool false)] ?_;(repeat1' dsimp only[mH,fe,ed,go_sem]);first|refine ba ?_ ?_ rfl ?_|apply bb|apply bf|(refine bg (fun hc=>?_) fun hc=>?_<;>first|(cases hc;done)|(exfalso;simp[x2,x3,k1',k2']at hc<;>omega)|(try simp only[bn]at hc;try contradiction))|skip))
 ·exact⟨x2,trivial⟩
 refine ez (dB ?_);repeat' (first|((with_reducible first|show aI _|show aP _);simp[vb]<;>omega)|exact(rfl:some _=_)|((fail_if_success refine aZ ?_);refine bJ ?_;(repeat1' dsimp only[mH,fe,ed,go_sem]);first|refine ba ?_ ?_ rfl ?_|apply bb|apply bf|(refine bg (fun hc=>?_) fun hc=>?_<;>first|(cases hc;done)|(exfalso;simp at hc<;>omega)|(try simp only[bn]at hc;try contradiction))|skip))
 refine ez (dB ?_);repeat' (first|((with_reducible first|show aI _|show aP _);simp[vb]<;>omega)|exact(rfl:some _=_)|((fail_if_success refine aZ ?_);refine bJ ?_;(repeat1' dsimp only[mH,fe,ed,go_sem]);first|refine ba ?_ ?_ rfl ?_|apply bb|apply bf|(refine bg (fun hc=>?_) fun hc=>?_<;>first|(cases hc;done)|(exfalso;simp at hc<;>omega)|(try simp only[bn]at hc;try contradiction))|skip))
 refine ez ?_;refine zm 2 [] [] ?_;simp only[zl,List.take_succ_cons,List.take_zero,List.drop_succ_cons,List.drop_zero,List.getElem?_cons_succ,List.getElem?_cons_zero,go_sem,B4,fe,ed];refine⟨by simp[aI],trivial,trivial,.pv (.bool false),k1,_,.inr ⟨.t 84,[.t 85],l,rfl,rfl,hY _⟩,?_⟩;simp only[go_sem,fe,ed];refine⟨by simp[aI],by simp[aP],?_⟩;refine wE (t:=true) rfl ?_;rw[cond_true];refine dB ?_;repeat' (first|((with_reducible first|show aI _|show aP _);simp[vb]<;>omega)|exact(rfl:some _=_)|((fail_if_success refine aZ ?_);refine bJ ?_;(repeat1' dsimp only[mH,fe,ed,H3,go_sem]);first|refine ba ?_ ?_ rfl ?_|apply bb|apply bf|(refine bg (fun hc=>?_) fun hc=>?_<;>first|(cases hc;done)|(exfalso;simp at hc<;>omega)|(try simp only[bn]at hc;try contradiction))|skip))
 exact⟨rfl,[],_,rfl,trivial,rfl⟩
def CX (s:List UInt8) (k:Int×Bool):AM:=[⟨[.pv (.str s)],0,1,9,false⟩,⟨[.pv (.int .i64 k.1)],0,1,3,false⟩]
theorem JL (s:List UInt8) (k:Int×Bool):∀b∈CX s k,Cn b:=by
 intro b hb;simp only[CX,List.mem_cons,List.not_mem_nil,or_false]at hb;rcases hb with rfl|rfl
 ·exact⟨by simp[yg],rfl,rfl,by simp⟩
 exact⟨by simp[yg],rfl,rfl,by simp⟩
theorem Fs {s:List UInt8} (hs:yr s):ah ctx 332 [.str s] (.int .i64 1):=by
 have hl:s≠[]∧(s.length:Int)≤4096:=by rcases hs with rfl|rfl<;>simp
 obtain⟨h0,h1⟩:=hl;refine yh (C:=ctx) (Fn.of Mr rfl) rfl ?_;unfold Mq;refine oo (om fun D=>?_);refine bJ ?_;dsimp only[go_sem];try dsimp only[go_sem]
 refine⟨(by simp[vb]<;>omega),(by simp[vb]<;>omega),?_⟩;refine oo (oo (om fun D=>?_));refine bJ ?_;dsimp only[go_sem];try dsimp only[go_sem]
 refine⟨(by simp[vb,h0,h1]<;>omega),(by simp[vb,h0,h1]<;>omega),?_⟩;have hb:(s==([]:List UInt8))=false:=by simpa using h0
 have hd:decide (4096<(s.length:Int))=false:=decide_eq_false (by omega);refine Cq (t:=false) (by
  show AV.pv (PV.bool (bif s==[] then true else decide (4096<(s.length:Int))))=_;rw[hb,hd];rfl) ?_
 rw[cond_false];refine om fun D=>?_
 refine bJ ?_;dsimp only[go_sem];refine oo (oo (om fun D=>?_));have hn:=(A8 s (CX s (0,false)) rfl).O4 D;refine cu [(12,{val:=some (.fn 422 [.ptr 2 0 0,.ptr 3 0 0]),mem:=some (CX s (0,false)++[Ek s,El])})] ?_;dsimp only[CX,Ek,El,go_sem];try dsimp only[CX,Ek,El,go_sem]
 refine⟨(by simp[vb]<;>omega),?_,?_⟩
 ·exact⟨hn,trivial⟩
 refine AI (yi (σ:=Int×Bool) (q:=2) (bt:=2) (bs:=3) (k0:=(0,false)) (k':=(1,true)) (fo:=CX s) (stop:=fun k=>k.2) (junk:=[Ek s,El]) (kb:=Ek s) (kc:=El) (cells:=[.str s]) (cells2:=[.mp EX]) (g0:=[(1,.ptr 0 0 0),(2,.ptr 1 0 0)]) (rv:=.pv (.tup [])) rfl (by omega) (by omega) rfl rfl rfl (by simp[El]) rfl rfl rfl (by simp[Ek]) (by kernel_rfl) (fun _=>rfl) (JL s) rfl rfl (by (repeat' (first|exact trivial|refine And.intro (by first|rfl|(simp[get,Nat.beq]<;>omega)|(dsimp only[get];congr 1<;>first|rfl|omega|(simp<;>omega))) ?_))) (by omega) (by omega) ?_ (fun hst=>by cases hst) (fun hst=>?_))
 ·intro w0 w1 S γ l L hX hround;refine Fq (X:=⟨_,hX.hE,_⟩) l hs (0,false) (1,true) fun μ=>hround (.agg (CV s.length)) (0,false) (1,true) false μ rfl rfl ?_
  refine uI false [] ?_;dsimp only[CV,CX,eb,go_sem];refine⟨by simp[aI],by simp[aP],?_⟩;refine AG (uH (uH (uI true [] ?_)));dsimp only[CV,CX,eb,go_sem];refine⟨by simp[aI],by simp[aP,aI],?_⟩;refine Cl (t:=false) (by simp[go_sem]) ?_;rw[cond_false];refine Cm ?_;refine uH (uI false [] ?_);dsimp only[CV,CX,eb,go_sem];refine⟨by simp[aI],by simp[aP],?_⟩;refine EN ?_;exact⟨rfl,[_],rfl⟩
 dsimp only[ec,eb,CX,go_sem];exact⟨by simp[aI],rfl⟩
theorem zH {s:List UInt8} (hs:yr s):ah ctx 240 [.str s] (.bool true):=by
 have hl:(s.length:Int)≤16:=by rcases hs with rfl|rfl<;>simp
 have x1:=Fs hs;refine aj (C:=ctx) (Fn.of Ms rfl) rfl ?_;unfold JI;repeat' (first|((with_reducible show aI _);first|exact True.intro|(simp only[vb,lb];omega)|(simp only[vb,lb,x1,hl];and_intros<;>first|omega|(simp<;>omega))|(simp[vb,x1,hl]<;>omega))|((with_reducible show aP _);first|exact True.intro|((try dsimp only[go_sem]);first|(simp[vb,x1,hl]<;>omega)|(simp only[vb,and_true,true_implies];(repeat' (first|(with_reducible assumption)|(with_reducible apply And.intro)|intro _|((fail_if_success (with_reducible show(_:Int)≤_));assumption)))<;>first|omega|rfl|(simp only[ab,x1,hl];done)|(simp[Nat.mul_one,x1,hl]<;>omega)|(simp_all;done))))|exact(rfl:some _=_)|((fail_if_success refine aZ ?_);refine lA [(332,fun _=>some (.int .i64 1))] ?_;(repeat1' dsimp only[JI,go_sem]);first|refine ba ?_ ?_ rfl ?_|apply bb|apply bf|(refine bg (fun hc=>?_) fun hc=>?_<;>first|(cases hc;done)|(exfalso;first|(simp at hc<;>omega)|(simp[x1,hl]at hc;done))|(try simp only[bn]at hc;try contradiction))|skip))
 simp[hl]
end
end Pur
end
end Go.Proofs.YtfgcmogbdcifeaaGreatDoor
