/-
  RefutationTrims: both libraries trim alike, for any system and tree whose bulk is at most 1048576 (the tables laid); names shortened by a program (SchPlain Mem SchMem PurX Laid Post Shelf BldS Opn OpnU Typ PsB RfCd RfA Spl RfB RfC RfP RfL RfV RfW RfX Bld RfD RfE RfSm RfK RfG1 RfLn RfTr RfU5 RfTy RfF)
-/
import Derived.Test.YtaleoeblooeglaaGreatDoorT02
import Derived.WalkKit
import Derived.Lib.ItoaNum
import Derived.WalkSpells
import Derived.Lib.Hide
import Derived.Deep.Draws
import Derived.WalkSmall
import Derived.Deep.QuietTactic
import Derived.BigQuiet
import Derived.WalkLawsBesides
import Derived.Test.YtaleoeblooeglaaGreatDoorRows
import Derived.Lib.LaidTab
import Derived.Test.YtaleoeblooeglaaGreatDoorProg
import Derived.Below
import Derived.ChangeSame
import Derived.ProofKit
import Derived.Shelf.Strings.Builder1
import Derived.Shelf.Strings.BuilderF
import Derived.Shelf.Strings.BuilderK
import Derived.Shelf.Utf8.RuneCount
import Derived.Shelf.Strconv.Atoi
import Derived.Shelf.Strconv.Itoa0
import Derived.Shelf.Strconv.Itoa1
import Derived.Shelf.LaysM
import Derived.Shelf.Strconv.Itoa2
import Derived.Shelf.Strconv.Itoa3
import Derived.Shelf.Strconv.AtoiErrFast
import Derived.Shelf.Strconv.ParseIntEmpty
import Derived.Shelf.Strconv.AtoiFail
import Derived.Shelf.Strconv.Clone
import Derived.Shelf.Strconv.SyntaxError
import Derived.Shelf.LaysC
import Derived.Shelf.Strconv.ToError
import Derived.Shelf.Strconv.AtoiErr
import Derived.Shelf.Strconv.ErrVar
import Derived.Shelf.Strconv.Lower
import Derived.Shelf.Strconv.ParseUint10
import Derived.Shelf.Strconv.ParseUint10Empty
import Derived.Shelf.Strconv.ParseUint10Any
import Derived.Shelf.Strconv.ParseInt10
import Derived.Shelf.Strconv.AtoiLong
import Derived.Shelf.Strconv.AtoiInnerAll
import Derived.Shelf.Strconv.RangeError
import Derived.Shelf.Strconv.ToErrorRange
import Derived.Shelf.Strconv.AtoiAll
import Derived.Shelf.Strconv.ErrVarAll
import Derived.Shelf.Strconv.ParseUintEmpty
import Derived.Shelf.Strconv.ParseUint10b64
import Derived.Shelf.Strconv.ParseUint10b32
import Derived.Shelf.Strconv.ParseUint10b16
import Derived.Shelf.Strconv.ParseUint10b8
import Derived.Shelf.Strconv.ParseUint10At
import Derived.Shelf.Strconv.ParseInt10At64
import Derived.Shelf.Strconv.ParseInt10At32
import Derived.Shelf.Strconv.ParseInt10At16
import Derived.Shelf.Strconv.ParseInt10At8
import Derived.Shelf.Strconv.ParseInt10All
import Derived.Shelf.Strings.Search1
import Derived.Shelf.Strings.Search2
import Derived.Shelf.Strings.Search3
import Derived.Shelf.Strings.Count
import Derived.Shelf.Strings.Shaped
import Derived.Shelf.Strings.Split
import Derived.Shelf.Strings.SplitShaped
import Derived.Shelf.Unicode.Decode
import Derived.Shelf.Strings.RuneCount
import Derived.Shelf.Strings.Explode
import Derived.Shelf.Unicode.DecodeSlow
import Derived.Shelf.Unicode.DecodeAny
import Derived.Shelf.Strings.BuilderCap
import Derived.Ground.Names2Prog
import Derived.Shelf.Slices.Clone
import Derived.OpenShut
import Derived.WideKeyArgs
import Derived.Lib.AtoiAll
import Derived.Lib.SmallJoins
import Derived.Shelf.SlSorted.Search
import Derived.Test.YtaleoeblooeglaaGreatDoorCards
import Derived.Test.YtaleoeblooeglaaGreatDoorTie
import Derived.Deep.DeepHandedRow
import Derived.Deep.DeepWitnessRowRef
import Derived.Lay
import Derived.Lib.SplitLaws
import Derived.RangeFuncRecord
set_option maxRecDepth 10000
set_option maxHeartbeats 32000000
set_option linter.unusedSimpArgs false
set_option linter.unusedVariables false
namespace Go.Proofs.YtaleoeblooeglaaGreatDoor
section
namespace Sch
structure GB where
 drop:Bool
 delay:Int
 again:Int
abbrev Query:=Int×Int
structure Step where
 tick:Int
 kind:Int
 replica:Int
 other:Int
 session:Int
 action:Int
 after:Int
 queries:List Query
 survive:List Int
 voters:List Int
structure sk where
 replicas:Int
 sessions:Int
 sectors:Int
 ticks:Int
 state:List Int
 fates:List GB
 steps:List Step
def sn:Step:=⟨0,0,0,0,0,0,0,[],[],[]⟩
def eg (n lo hi:Int):Bool:=decide (lo≤n)&&decide (n≤hi)
def CQ (l:List Int) (lo hi:Int):Bool:=l.all fun n=>eg n lo hi
def fieldsOf (x:Step):Step :=
 let y:Step:={sn with tick:=x.tick,kind:=x.kind,replica:=x.replica}
 if x.kind=0 then {y with session:=x.session,action:=x.action}
 else if x.kind=1 then {y with session:=x.session,queries:=x.queries}
 else if x.kind=2∨x.kind=3 then {y with other:=x.other}
 else if x.kind=4 then {y with after:=x.after,survive:=x.survive}
 else if x.kind=6 then {y with voters:=x.voters}
 else y
def ascending:List Int→Bool
 |a::b::r=>decide (a<b)&&ascending (b::r)
 |_=>true
def EE (q:Query):Bool:=eg q.1 0 2&&eg q.2 0 127
def kindOk (s:sk) (x:Step):Bool :=
 if x.kind=0 then eg x.session 0 (s.sessions-1)&&eg x.action 0 255
 else if x.kind=1 then eg x.session 0 (s.sessions-1)&&eg x.queries.length 1 16&&x.queries.all EE
 else if x.kind=2∨x.kind=3 then eg x.other 0 (s.replicas-1)&&decide (x.other≠x.replica)
 else if x.kind=4 then eg x.after 0 1024&&decide (x.survive.length≤16)&&CQ x.survive 0 64
 else if x.kind=6 then ascending x.voters&&decide (0<x.voters.length)&&CQ x.voters 0 (s.replicas-1)
 else true
def CR (a b:Step):Bool :=
 decide (a.tick=b.tick)&&decide (a.kind=b.kind)&&decide (a.replica=b.replica)&&decide (a.other=b.other)&&decide (a.session=b.session)&&decide (a.action=b.action) &&
  decide (a.after=b.after)&&decide (a.queries=b.queries)&&decide (a.survive=b.survive)&&decide (a.voters=b.voters)
def possible (s:sk) (x:Step):Bool :=
 eg x.kind 0 6&&CR x (fieldsOf x)&&eg x.replica 0 (s.replicas-1)&&kindOk s x
def yP (s:sk) (x:Step):Bool:=match s.steps.getLast? with
 |none=>true
 |some y=>decide (y.tick≤x.tick)
def follows (s:sk) (x:Step):Bool :=
 decide (s.steps.length<256)&&eg x.tick 0 (s.ticks-1)&&yP s x&&possible s x
def head (s:sk):Bool :=
 eg s.replicas 1 5&&eg s.sessions 0 8&&eg s.sectors 8 2048&&eg s.ticks 0 1048576&&decide (s.state.length≤128)&&CQ s.state (-1000000) 1000000
end Sch
end
section
open Go.RowKit
def Whole (w:World) (g:Nat) (t:TypeId) (cs:Array Value):Prop:=w.heap[g]?=some (.cells cs t (0,0))
section
variable {w w':World} {g:Nat} {t:TypeId} {cs:Array Value}
theorem Whole.lt (h:Whole w g t cs):g<w.heap.size:=by
 apply Classical.byContradiction;intro hn;unfold Whole at h;rw[Array.getElem?_eq_none (Nat.le_of_not_lt hn)]at h;cases h
theorem Whole.cell (h:Whole w g t cs) (i:Nat):w.cell? ⟨g,i,none⟩=cs[i]?:=by
 unfold Whole at h;simp[World.cell?,h]
theorem Whole.free (h:Whole w g t cs) (i:Nat):w.frozen? ⟨g,i,none⟩=false:=by
 unfold Whole at h;simp[World.frozen?,h]
theorem Whole.new (w:World) (t:TypeId) (cs:Array Value):Whole (w.alloc (.cells cs t)) w.heap.size t cs:=heap_alloc_new w _
theorem Whole.alloc (h:Whole w g t cs) (o:Obj):Whole (w.alloc o) g t cs:=(Below.heap_alloc w o g h.lt).trans h
theorem Whole.set (h:Whole w g t cs) (i:Nat) (u:Value):Whole (w.setCell ⟨g,i,none⟩ u) g t (cs.setIfInBounds i u):=by
 unfold Whole at h ⊢;simp[World.setCell,Array.getElem?_modify,h]
theorem Whole.below {B:Nat} (h:Whole w g t cs) (hb:Below B w w') (hg:g<B):Whole w' g t cs:=(hb.block g hg).trans h
end
def str (l:List UInt8):ByteArray:=⟨l.toArray⟩
theorem dP (l:List UInt8):(str l).size=l.length:=by simp[str,ByteArray.size]
def yQ (w:World) (A:Option Addr) (xs:List (List UInt8)):Prop :=
 xs=[]∨∃g:Nat,A=some ⟨g,0,none⟩∧∀k (h:k<xs.length),w.cell? ⟨g,k,none⟩=some (.string (str xs[k]))
theorem yQ.below {w w':World} {A:Option Addr} {xs:List (List UInt8)} (h:yQ w A xs) (hb:Below w.heap.size w w'):yQ w' A xs:=by
 rcases h with h|⟨g,hA,hc⟩
 ·exact .inl h
 ·exact .inr ⟨g,hA,fun k hk=>(hb.cell (p:=⟨g,k,none⟩) (World.block_lt_of_cell? _ _ (hc k hk))).trans (hc k hk)⟩
end
section
open Go.RowKit
open Sch
def wV (w:World) (v:Value) (n size:Nat) (R:Nat→(Nat→Option Value)→Prop):Prop :=
 ∃A cap,v= .slice A n cap∧n≤cap∧(n=0∨∃g o:Nat,A=some ⟨g,o,none⟩∧g<w.heap.size∧∀k,k<n→R k fun j=>w.cell? ⟨g,o+k*size+j,none⟩)
theorem wV.later {w w':World} {v:Value} {n size:Nat} {R R':Nat→(Nat→Option Value)→Prop} (h:wV w v n size R) (hb:Below w.heap.size w w') (hR:∀k c,k<n→R k c→R' k c):wV w' v n size R':=by
 obtain⟨A,cap,rfl,hc,h⟩:=h;refine⟨A,cap,rfl,hc,?_⟩;rcases h with h|⟨g,o,hA,hg,hk⟩
 ·exact .inl h
 ·refine .inr ⟨g,o,hA,Nat.lt_of_lt_of_le hg hb.size,fun k hkn=>?_⟩;have:(fun j=>w'.cell? ⟨g,o+k*size+j,none⟩)=fun j=>w.cell? ⟨g,o+k*size+j,none⟩:=funext fun j=>hb.cell (p:=⟨g,_,none⟩) hg
  rw[this];exact hR k _ hkn (hk k hkn)
def pY (w:World) (v:Value) (xs:List Int):Prop:=wV w v xs.length 1 fun k c=>c 0=some (.int .i64 (xs.getD k 0))
def vq (w:World) (v:Value) (xs:List (List UInt8)):Prop:=wV w v xs.length 1 fun k c=>c 0=some (.string (str (xs.getD k [])))
def nN (w:World) (v:Value) (xs:List Query):Prop:=wV w v xs.length 2 fun k c=>c 0=some (.int .i64 (xs.getD k (0,0)).1)∧c 1=some (.int .i64 (xs.getD k (0,0)).2)
def qY (w:World) (v:Value) (xs:List GB):Prop :=
 wV w v xs.length 3 fun k c=>c 0=some (.bool (xs.getD k ⟨false,0,0⟩).drop)∧c 1=some (.int .i64 (xs.getD k ⟨false,0,0⟩).delay)∧c 2=some (.int .i64 (xs.getD k ⟨false,0,0⟩).again)
def wW (w:World) (q s t:Value) (x:Step):Prop:=nN w q x.queries∧pY w s x.survive∧pY w t x.voters
def ug (x:Step) (q s t:Value):Array Value :=
 #[.int .i64 x.tick,.int .i64 x.kind,.int .i64 x.replica,.int .i64 x.other,.int .i64 x.session,.int .i64 x.action,.int .i64 x.after,q,s,t]
def qZ (w:World) (v:Value) (xs:List Step):Prop :=
 wV w v xs.length 10 fun k c=>∃q s t,wW w q s t (xs.getD k sn)∧∀j,j<10→c j=(ug (xs.getD k sn) q s t)[j]?
theorem pY.below {w w':World} {v:Value} {xs:List Int} (h:pY w v xs) (hb:Below w.heap.size w w'):pY w' v xs:=h.later hb fun _ _ _ h=>h
theorem vq.below {w w':World} {v:Value} {xs:List (List UInt8)} (h:vq w v xs) (hb:Below w.heap.size w w'):vq w' v xs:=h.later hb fun _ _ _ h=>h
theorem nN.below {w w':World} {v:Value} {xs:List Query} (h:nN w v xs) (hb:Below w.heap.size w w'):nN w' v xs:=h.later hb fun _ _ _ h=>h
theorem qY.below {w w':World} {v:Value} {xs:List GB} (h:qY w v xs) (hb:Below w.heap.size w w'):qY w' v xs:=h.later hb fun _ _ _ h=>h
theorem wW.below {w w':World} {q s t:Value} {x:Step} (h:wW w q s t x) (hb:Below w.heap.size w w'):wW w' q s t x:=⟨h.1.below hb,h.2.1.below hb,h.2.2.below hb⟩
theorem qZ.below {w w':World} {v:Value} {xs:List Step} (h:qZ w v xs) (hb:Below w.heap.size w w'):qZ w' v xs :=
 h.later hb fun _ _ _ ⟨q,s,t,h1,h2⟩=>⟨q,s,t,h1.below hb,h2⟩
def CS (w:World) (v:Value) (x:Step):Prop:=∃q s t,v= .agg (ug x q s t)∧wW w q s t x
theorem CS.below {w w':World} {v:Value} {x:Step} (h:CS w v x) (hb:Below w.heap.size w w'):CS w' v x:=by
 obtain⟨q,s,t,hv,ht⟩:=h;exact⟨q,s,t,hv,ht.below hb⟩
def CT (w:World) (a f p:Value) (x:sk):Prop:=pY w a x.state∧qY w f x.fates∧qZ w p x.steps
theorem CT.below {w w':World} {a f p:Value} {x:sk} (h:CT w a f p x) (hb:Below w.heap.size w w'):CT w' a f p x:=⟨h.1.below hb,h.2.1.below hb,h.2.2.below hb⟩
end
section
open Go.RowKit
structure Env (w:World):Prop where
 tab : Lib.TabIs Tryz.prog w "internal/strconv.uint64pow10" .u64 Lib.pow10Tab
 syn : ∃ tp p, w.var? Tryz.prog "strconv.ErrSyntax" = some #[.iface tp p]
 ran : ∃ tp p, w.var? Tryz.prog "strconv.ErrRange" = some #[.iface tp p]
 ml:∃m,w.cell? ⟨0,0,none⟩=some (.int .i64 m)
theorem Tryz.GC : Tryz.prog.globalNamed "internal/strconv.uint64pow10" = some 3 := by kernel_rfl
theorem Tryz.GD : Tryz.prog.globalNamed "strconv.ErrSyntax" = some 1 := by kernel_rfl
theorem Tryz.GG : Tryz.prog.globalNamed "strconv.ErrRange" = some 2 := by kernel_rfl
theorem yR {P:Program} {w:World} {name:String} {g:Nat} {cs:Array Value} (hg:P.globalNamed name=some g) (h:w.var? P name=some cs):g<w.heap.size:=by
 apply Classical.byContradiction;intro hn;unfold World.var? at h;rw[hg]at h;simp only[Option.bind_some]at h;rw[Array.getElem?_eq_none (Nat.le_of_not_lt hn)]at h;cases h
theorem EF {w:World} {g:Nat} {v:Value} (h:w.cell? ⟨g,0,none⟩=some v):g<w.heap.size:=by
 apply Classical.byContradiction;intro hn;unfold World.cell? at h;rw[Array.getElem?_eq_none (Nat.le_of_not_lt hn)]at h;cases h
theorem Env.below {w w':World} (h:Env w) (hb:Below w.heap.size w w'):Env w':=by
 obtain⟨h1,⟨t2,p2,h2⟩,⟨t3,p3,h3⟩,⟨m,h4⟩⟩:=h;exact⟨var?_below hb Tryz.GC (yR Tryz.GC h1) h1,⟨t2,p2,var?_below hb Tryz.GD (yR Tryz.GD h2) h2⟩,⟨t3,p3,var?_below hb Tryz.GG (yR Tryz.GG h3) h3⟩,⟨m,(hb.cell (EF h4)).trans h4⟩⟩
namespace Pur
noncomputable def ctx:Ctx:=⟨Tryz.prog,Env,fun _ _ h hb=>h.below hb,by kernel_rfl,[]⟩
end Pur
end
section
open Go.RowKit
theorem tF {P:Program} {W:World} {name:String} {k:IntKind} {zs:List Int} {g:Nat} {t e:TypeId} {n:Nat}
  (hg:P.globalNamed name=some g) (hty:(P.globals[g]?).map (·.type)=some t) (ht:P.underlying t=some (.array n e)) (he:P.underlying e=some (.int k)) (hce:P.cellsOf e=1) (hct:P.cellsOf t=n) :
  ∀(laid:List (String×DataW Unit)) (ps:List MemPlace),DataW.LaidVars P W laid ps→(name,Lib.tabData k zs)∈laid→Lib.TabIs P W name k zs:=by
 intro laid;induction laid with
 |nil=>intro ps _ hm;cases hm
 |cons x rest ih =>
  intro ps h hm;obtain⟨nm,d⟩:=x;obtain⟨g',t',cs,fuel,p,q,hg',ht',hvar,hd,hrest,_⟩:=h;rcases List.mem_cons.1 hm with hm|hm
  ·obtain⟨rfl,rfl⟩:=Prod.mk.inj hm;obtain rfl:=Option.some.inj (hg.symm.trans hg');obtain rfl:=Option.some.inj (hty.symm.trans ht');unfold Lib.TabIs;rw[hvar,←Lib.cells_of_tab ht he hce hct hd]
  ·exact ih q hrest hm
end
section
open Go.RowKit Go.WideShapes Go.ChangeShapes
theorem yS {H:Type} {enc:TypeId×Value→H} {P:Program} {f:Func} {s:ChangeSpec} {apart fresh handsOn again:Bool} {W W':World} {args:Array Value} {v:Value} {ds gs:List (DataW H)}
  {before pa pv:List MemPlace} (hW:DataW.Whole enc P f.params.toList s.vars apart W args.toList ds gs before)
  (hres:∀(b:Nat) (sp:Nat→Bool) (hd:Bool),DataW.TrodAll enc P W' b sp hd f.resultTypes.toList (v.resultList f.resultTypes.size) (s.fn H (ds++gs)).results [])
  (hargs:∀sp:Nat→Bool,(∀p∈before,sp p.block=true)→DataW.TrodAll enc P W' 0 sp true f.params.toList args.toList (s.fn H (ds++gs)).args pa)
  (hvars:∀sp:Nat→Bool,(∀p∈before,sp p.block=true)→DataW.TrodVars enc P W' sp s.vars (s.fn H (ds++gs)).vars pv)
  (hps:before=pa++pv) (hb:Below W.heap.size W W')
  (hok:∀(j:Nat) (t:TypeId) (r:Value),f.resultTypes[j]?=some t→(v.resultList f.resultTypes.size)[j]?=some r→Value.okWide P W' .any 0 t r) :
  s.post enc P f apart fresh handsOn again W args v W':=by
 have hblk:∀x∈before,x.block<W.heap.size:=fun x hx=>hW.lt x hx
 have hsp:∀x∈before,decide (x.block<W.heap.size)=true:=fun x hx=>decide_eq_true (hblk x hx)
 have hall:∀x∈before,(fun _:Nat=>true) x.block=true:=fun _ _=>rfl
 have hframe:W.keptBut W' fun x=>x∈before∧x∈([]++pa)++pv∨False:=by
  refine World.keptBut_mono (fun x hx=>?_) (hb.frame (·∈before));exact .inl ⟨hx,by rw[List.nil_append,←hps];exact hx⟩
 refine⟨ds,gs,before,[],pa,pv,hW,hres _ _ _,hargs (fun b=>decide (b<W.heap.size)) hsp,hvars (fun b=>decide (b<W.heap.size)) hsp,World.keptBut_mono (fun x hx=>?_) hframe,fun _=>?_⟩
 ·rcases hx with⟨h1,h2⟩|h
  ·refine⟨h1,?_⟩;rw[List.nil_append,←hps]at h2;rw[hps,List.mem_append]at h1;exact Or.inr h1
  ·exact h.elim
 ·obtain⟨_,_,_,_,_,hfz,hnd⟩:=hW;have hpl:before=([]++pa)++pv:=by rw[List.nil_append];exact hps
  refine⟨hok,_,_,([]++pa)++pv,⟨[]++pa,pv,trodAll_append (hargs _ hall) (hres _ _ _),hvars _ hall,rfl,fun b off hp=>?_,fun ha=>?_⟩,fun x hx _=>?_⟩
  ·rw[←hpl]at hp;rw[hb.frozen (p:=⟨b,off,none⟩) (hblk _ hp)];exact hfz b off hp
  ·rw[←hpl];exact hnd ha
  ·rw[hpl];exact hx
end
end Go.Proofs.YtaleoeblooeglaaGreatDoor
namespace Go.Proofs
open Go.Shelf
def Tryz.qA:Go.Shelf.Ren:=⟨fun|169=>52|n=>n,fun|70=>75|9=>9|0=>0|72=>78|37=>76|127=>128|3=>3|5=>5|n=>n,fun|n=>n⟩
theorem Tryz.EG:Go.Proofs.Lays.n169 Tryz.prog Tryz.qA:={
 mixed:=by kernel_rfl
 f169:=Tryz.func52.trans (congrArg some (by kernel_rfl))
 t0:=Tryz.underlying0
 a0:=Tryz.isAgg0
 z0:=Tryz.sizeOf0
 v0:=Tryz.zeroValue0
 t3:=Tryz.underlying3
 a3:=Tryz.isAgg3
 z3:=Tryz.sizeOf3
 v3:=Tryz.zeroValue3
 t9:=Tryz.underlying9
 a9:=Tryz.isAgg9
 z9:=Tryz.sizeOf9
 v9:=Tryz.zeroValue9
 t37:=Tryz.underlying76
 a37:=Tryz.isAgg76
 z37:=Tryz.sizeOf76
 v37:=Tryz.zeroValue76
 t70:=Tryz.underlying75
 a70:=Tryz.isAgg75
 z70:=Tryz.sizeOf75
 v70:=Tryz.zeroValue75
 t72:=Tryz.underlying78
 a72:=Tryz.isAgg78
 z72:=Tryz.sizeOf78
 v72:=Tryz.zeroValue78
 t127:=Tryz.underlying128
 a127:=Tryz.isAgg128
 z127:=Tryz.sizeOf128
 v127:=Tryz.zeroValue128}
theorem Tryz.pc:Builder.Extra Tryz.prog Tryz.qA:={
 sizeBuilder:=by kernel_rfl
 liesBuilder:=by kernel_rfl
 t5:=Tryz.underlying5
 a5:=Tryz.isAgg5
 z5:=Tryz.sizeOf5
 v5:=Tryz.zeroValue5
 infoByte:=by kernel_rfl
 cellsByte:=by kernel_rfl
 sizeByte:=by kernel_rfl
 neB5:=by decide}
def Tryz.vt:Go.Shelf.Ren:=⟨fun|171=>84|243=>112|246=>134|283=>154|284=>155|285=>156|286=>157|129=>169|317=>168|318=>170|319=>171|320=>172|337=>177|338=>178|n=>n,fun|3=>3|9=>9|2=>2|4=>4|171=>196|0=>0|53=>197|37=>76|5=>5|173=>200|212=>213|51=>214|20=>20|213=>215|46=>203|232=>229|233=>230|n=>n,fun|17=>3|18=>6|19=>7|n=>n⟩
theorem Tryz.CU:Go.Proofs.LaysM.n171 Tryz.prog Tryz.vt:={
 mixed:=by kernel_rfl
 f129:=Tryz.func169.trans (congrArg some (by kernel_rfl))
 f171:=Tryz.func84.trans (congrArg some (by kernel_rfl))
 f243:=Tryz.func112.trans (congrArg some (by kernel_rfl))
 f246:=Tryz.func134.trans (congrArg some (by kernel_rfl))
 f283:=Tryz.func154.trans (congrArg some (by kernel_rfl))
 f284:=Tryz.func155.trans (congrArg some (by kernel_rfl))
 f285:=Tryz.func156.trans (congrArg some (by kernel_rfl))
 f286:=Tryz.func157.trans (congrArg some (by kernel_rfl))
 f317:=Tryz.func168.trans (congrArg some (by kernel_rfl))
 f318:=Tryz.func170.trans (congrArg some (by kernel_rfl))
 f319:=Tryz.func171.trans (congrArg some (by kernel_rfl))
 f320:=Tryz.func172.trans (congrArg some (by kernel_rfl))
 f337:=Tryz.func177.trans (congrArg some (by kernel_rfl))
 f338:=Tryz.func178.trans (congrArg some (by kernel_rfl))
 t0:=Tryz.underlying0
 a0:=Tryz.isAgg0
 z0:=Tryz.sizeOf0
 v0:=Tryz.zeroValue0
 t2:=Tryz.underlying2
 a2:=Tryz.isAgg2
 z2:=Tryz.sizeOf2
 v2:=Tryz.zeroValue2
 t3:=Tryz.underlying3
 a3:=Tryz.isAgg3
 z3:=Tryz.sizeOf3
 v3:=Tryz.zeroValue3
 t4:=Tryz.underlying4
 a4:=Tryz.isAgg4
 z4:=Tryz.sizeOf4
 v4:=Tryz.zeroValue4
 t5:=Tryz.underlying5
 a5:=Tryz.isAgg5
 z5:=Tryz.sizeOf5
 v5:=Tryz.zeroValue5
 t9:=Tryz.underlying9
 a9:=Tryz.isAgg9
 z9:=Tryz.sizeOf9
 v9:=Tryz.zeroValue9
 t20:=Tryz.underlying20
 a20:=Tryz.isAgg20
 z20:=Tryz.sizeOf20
 v20:=Tryz.zeroValue20
 t37:=Tryz.underlying76
 a37:=Tryz.isAgg76
 z37:=Tryz.sizeOf76
 v37:=Tryz.zeroValue76
 t46:=Tryz.underlying203
 a46:=Tryz.isAgg203
 z46:=Tryz.sizeOf203
 v46:=Tryz.zeroValue203
 t51:=Tryz.underlying214
 a51:=Tryz.isAgg214
 z51:=Tryz.sizeOf214
 v51:=Tryz.zeroValue214
 t53:=Tryz.underlying197
 a53:=Tryz.isAgg197
 z53:=Tryz.sizeOf197
 v53:=Tryz.zeroValue197
 t171:=Tryz.underlying196
 a171:=Tryz.isAgg196
 z171:=Tryz.sizeOf196
 v171:=Tryz.zeroValue196
 t173:=Tryz.underlying200
 a173:=Tryz.isAgg200
 z173:=Tryz.sizeOf200
 v173:=Tryz.zeroValue200
 t212:=Tryz.underlying213
 a212:=Tryz.isAgg213
 z212:=Tryz.sizeOf213
 v212:=Tryz.zeroValue213
 t213:=Tryz.underlying215
 a213:=Tryz.isAgg215
 z213:=Tryz.sizeOf215
 t232:=Tryz.underlying229
 a232:=Tryz.isAgg229
 z232:=Tryz.sizeOf229
 v232:=Tryz.zeroValue229
 t233:=Tryz.underlying230
 a233:=Tryz.isAgg230
 z233:=Tryz.sizeOf230
 v233:=Tryz.zeroValue230
 g17:=by kernel_rfl
 g18:=by kernel_rfl
 g19:=by kernel_rfl
 i0:=by kernel_rfl
 i2:=by kernel_rfl
 i3:=by kernel_rfl
 i4:=by kernel_rfl
 i5:=by kernel_rfl
 i9:=by kernel_rfl
 i20:=by kernel_rfl
 i37:=by kernel_rfl
 i46:=by kernel_rfl
 i51:=by kernel_rfl
 i53:=by kernel_rfl
 i171:=by kernel_rfl
 i173:=by kernel_rfl
 i212:=by kernel_rfl
 i232:=by kernel_rfl
 i233:=by kernel_rfl
 m17:=by kernel_rfl
 m18:=by kernel_rfl
 m19:=by kernel_rfl}
open Go.RowKit Go.Sort Go.Lib in
theorem Tryz.strconv_Itoa (n : Int) (h0 : -9223372036854775808 ≤ n) (h1 : n ≤ 9223372036854775807) (w : World) (htab : Lib.TabIs Tryz.prog w "internal/strconv.uint64pow10" .u64 Lib.pow10Tab) :
  Calls Tryz.prog 84 #[.int .i64 n] w fun e w'=>e= .returned (.string ⟨(Lib.itoa n).toArray⟩)∧∃k os,w'=grow (w.drewN k) os:=Any.strconv_Itoa Tryz.CU n h0 h1 w htab
def Tryz.vu:Go.Shelf.Ren:=⟨fun|172=>88|244=>116|245=>117|247=>139|279=>140|280=>141|281=>142|282=>143|287=>163|316=>164|171=>84|205=>165|321=>175|322=>176|243=>112|246=>134|283=>154|284=>155|285=>156|286=>157|129=>169|317=>168|318=>170|319=>171|320=>172|337=>177|338=>178|n=>n,fun|9=>9|3=>3|75=>123|76=>124|4=>4|5=>5|167=>179|37=>76|0=>0|85=>180|2=>2|168=>182|53=>197|175=>204|46=>203|210=>208|127=>128|145=>227|143=>225|21=>21|171=>196|173=>200|212=>213|51=>214|20=>20|213=>215|232=>229|233=>230|80=>81|n=>n,fun|15=>1|16=>2|17=>3|18=>6|19=>7|n=>n⟩
theorem Tryz.so:Go.Proofs.LaysC.n172 Tryz.prog Tryz.vu:={
 mixed:=by kernel_rfl
 f129:=Tryz.func169.trans (congrArg some (by kernel_rfl))
 f171:=Tryz.func84.trans (congrArg some (by kernel_rfl))
 f172:=Tryz.func88.trans (congrArg some (by kernel_rfl))
 f205:=Tryz.func165.trans (congrArg some (by kernel_rfl))
 f243:=Tryz.func112.trans (congrArg some (by kernel_rfl))
 f244:=Tryz.func116.trans (congrArg some (by kernel_rfl))
 f245:=Tryz.func117.trans (congrArg some (by kernel_rfl))
 f246:=Tryz.func134.trans (congrArg some (by kernel_rfl))
 f247:=Tryz.func139.trans (congrArg some (by kernel_rfl))
 f279:=Tryz.func140.trans (congrArg some (by kernel_rfl))
 f280:=Tryz.func141.trans (congrArg some (by kernel_rfl))
 f281:=Tryz.func142.trans (congrArg some (by kernel_rfl))
 f282:=Tryz.func143.trans (congrArg some (by kernel_rfl))
 f283:=Tryz.func154.trans (congrArg some (by kernel_rfl))
 f284:=Tryz.func155.trans (congrArg some (by kernel_rfl))
 f285:=Tryz.func156.trans (congrArg some (by kernel_rfl))
 f286:=Tryz.func157.trans (congrArg some (by kernel_rfl))
 f287:=Tryz.func163.trans (congrArg some (by kernel_rfl))
 f316:=Tryz.func164.trans (congrArg some (by kernel_rfl))
 f317:=Tryz.func168.trans (congrArg some (by kernel_rfl))
 f318:=Tryz.func170.trans (congrArg some (by kernel_rfl))
 f319:=Tryz.func171.trans (congrArg some (by kernel_rfl))
 f320:=Tryz.func172.trans (congrArg some (by kernel_rfl))
 f321:=Tryz.func175.trans (congrArg some (by kernel_rfl))
 f322:=Tryz.func176.trans (congrArg some (by kernel_rfl))
 f337:=Tryz.func177.trans (congrArg some (by kernel_rfl))
 f338:=Tryz.func178.trans (congrArg some (by kernel_rfl))
 t0:=Tryz.underlying0
 a0:=Tryz.isAgg0
 z0:=Tryz.sizeOf0
 v0:=Tryz.zeroValue0
 t2:=Tryz.underlying2
 a2:=Tryz.isAgg2
 z2:=Tryz.sizeOf2
 v2:=Tryz.zeroValue2
 t3:=Tryz.underlying3
 a3:=Tryz.isAgg3
 z3:=Tryz.sizeOf3
 v3:=Tryz.zeroValue3
 t4:=Tryz.underlying4
 a4:=Tryz.isAgg4
 z4:=Tryz.sizeOf4
 v4:=Tryz.zeroValue4
 t5:=Tryz.underlying5
 a5:=Tryz.isAgg5
 z5:=Tryz.sizeOf5
 v5:=Tryz.zeroValue5
 t9:=Tryz.underlying9
 a9:=Tryz.isAgg9
 z9:=Tryz.sizeOf9
 v9:=Tryz.zeroValue9
 t20:=Tryz.underlying20
 a20:=Tryz.isAgg20
 z20:=Tryz.sizeOf20
 v20:=Tryz.zeroValue20
 t21:=Tryz.underlying21
 a21:=Tryz.isAgg21
 z21:=Tryz.sizeOf21
 v21:=Tryz.zeroValue21
 t37:=Tryz.underlying76
 a37:=Tryz.isAgg76
 z37:=Tryz.sizeOf76
 v37:=Tryz.zeroValue76
 t46:=Tryz.underlying203
 a46:=Tryz.isAgg203
 z46:=Tryz.sizeOf203
 v46:=Tryz.zeroValue203
 t51:=Tryz.underlying214
 a51:=Tryz.isAgg214
 z51:=Tryz.sizeOf214
 v51:=Tryz.zeroValue214
 t53:=Tryz.underlying197
 a53:=Tryz.isAgg197
 z53:=Tryz.sizeOf197
 v53:=Tryz.zeroValue197
 t75:=Tryz.underlying123
 a75:=Tryz.isAgg123
 z75:=Tryz.sizeOf123
 v75:=Tryz.zeroValue123
 t76:=Tryz.underlying124
 a76:=Tryz.isAgg124
 z76:=Tryz.sizeOf124
 v76:=Tryz.zeroValue124
 t85:=Tryz.underlying180
 a85:=Tryz.isAgg180
 z85:=Tryz.sizeOf180
 v85:=Tryz.zeroValue180
 t127:=Tryz.underlying128
 a127:=Tryz.isAgg128
 z127:=Tryz.sizeOf128
 v127:=Tryz.zeroValue128
 t143:=Tryz.underlying225
 a143:=Tryz.isAgg225
 z143:=Tryz.sizeOf225
 v143:=Tryz.zeroValue225
 t145:=Tryz.underlying227
 a145:=Tryz.isAgg227
 z145:=Tryz.sizeOf227
 v145:=Tryz.zeroValue227
 t167:=Tryz.underlying179
 a167:=Tryz.isAgg179
 z167:=Tryz.sizeOf179
 v167:=Tryz.zeroValue179
 t168:=Tryz.underlying182
 a168:=Tryz.isAgg182
 z168:=Tryz.sizeOf182
 v168:=Tryz.zeroValue182
 t171:=Tryz.underlying196
 a171:=Tryz.isAgg196
 z171:=Tryz.sizeOf196
 v171:=Tryz.zeroValue196
 t173:=Tryz.underlying200
 a173:=Tryz.isAgg200
 z173:=Tryz.sizeOf200
 v173:=Tryz.zeroValue200
 t175:=Tryz.underlying204
 a175:=Tryz.isAgg204
 z175:=Tryz.sizeOf204
 v175:=Tryz.zeroValue204
 t210:=Tryz.underlying208
 a210:=Tryz.isAgg208
 z210:=Tryz.sizeOf208
 v210:=Tryz.zeroValue208
 t212:=Tryz.underlying213
 a212:=Tryz.isAgg213
 z212:=Tryz.sizeOf213
 v212:=Tryz.zeroValue213
 t213:=Tryz.underlying215
 a213:=Tryz.isAgg215
 z213:=Tryz.sizeOf215
 t232:=Tryz.underlying229
 a232:=Tryz.isAgg229
 z232:=Tryz.sizeOf229
 v232:=Tryz.zeroValue229
 t233:=Tryz.underlying230
 a233:=Tryz.isAgg230
 z233:=Tryz.sizeOf230
 v233:=Tryz.zeroValue230
 g15:=by kernel_rfl
 g16:=by kernel_rfl
 g17:=by kernel_rfl
 g18:=by kernel_rfl
 g19:=by kernel_rfl
 t80:=Tryz.underlying81
 a80:=Tryz.isAgg81
 z80:=Tryz.sizeOf81
 v80:=Tryz.zeroValue81
 i0:=by kernel_rfl
 i2:=by kernel_rfl
 i3:=by kernel_rfl
 i4:=by kernel_rfl
 i5:=by kernel_rfl
 i9:=by kernel_rfl
 i20:=by kernel_rfl
 i21:=by kernel_rfl
 i37:=by kernel_rfl
 i46:=by kernel_rfl
 i51:=by kernel_rfl
 i53:=by kernel_rfl
 i75:=by kernel_rfl
 i76:=by kernel_rfl
 i80:=by kernel_rfl
 i85:=by kernel_rfl
 i127:=by kernel_rfl
 i143:=by kernel_rfl
 i145:=by kernel_rfl
 i167:=by kernel_rfl
 i168:=by kernel_rfl
 i171:=by kernel_rfl
 i173:=by kernel_rfl
 i175:=by kernel_rfl
 i210:=by kernel_rfl
 i212:=by kernel_rfl
 i232:=by kernel_rfl
 i233:=by kernel_rfl
 m15:=by kernel_rfl
 m16:=by kernel_rfl
 m17:=by kernel_rfl
 m18:=by kernel_rfl
 m19:=by kernel_rfl
 c0:=by kernel_rfl
 c2:=by kernel_rfl
 c3:=by kernel_rfl
 c4:=by kernel_rfl
 c5:=by kernel_rfl
 c9:=by kernel_rfl
 c20:=by kernel_rfl
 c21:=by kernel_rfl
 c37:=by kernel_rfl
 c46:=by kernel_rfl
 c51:=by kernel_rfl
 c53:=by kernel_rfl
 c75:=by kernel_rfl
 c76:=by kernel_rfl
 c80:=by kernel_rfl
 c85:=by kernel_rfl
 c127:=by kernel_rfl
 c143:=by kernel_rfl
 c145:=by kernel_rfl
 c167:=by kernel_rfl
 c168:=by kernel_rfl
 c171:=by kernel_rfl
 c173:=by kernel_rfl
 c175:=by kernel_rfl
 c210:=by kernel_rfl
 c212:=by kernel_rfl
 c213:=by kernel_rfl
 c232:=by kernel_rfl
 c233:=by kernel_rfl}
open Go.RowKit in
theorem Tryz.strconv_Atoi_ok (s:ByteArray) (hmax:s.size≤9223372036854775806) (v:Int) (h:Lib.atoiAll s.data.toList= .ok v) (w:World) :
  Calls Tryz.prog 88 #[.string s] w fun e w'=>e= .returned (.tuple #[.int .i64 v,.nilIface])∧(w'=w∨∃t,w'=Lib.bytesWorld w 5 t):=Any.strconv_Atoi_ok Tryz.so s hmax v h w
open Go.RowKit in
theorem Tryz.strconv_Atoi_range_var (s : ByteArray) (hlim : s.size ≤ 281474976710656) (h : Lib.atoiAll s.data.toList = .range) (tp : TypeId) (p : Value) (w : World) (hvar : w.var? Tryz.prog "strconv.ErrRange" = some #[.iface tp p]) :
  Calls Tryz.prog 88 #[.string s] w fun e w'=>∃N,e= .returned (.tuple #[.int .i64 (Lib.atoiSat s.data.toList),.iface 182 (.pointer (some ⟨N,0,none⟩))])∧w.heap.size≤N∧w'.heap[N]?=some (.cells #[.string ⟨#[65,116,111,105]⟩,.string s,.iface tp p] 208 (0,0))∧Below w.heap.size w w':=Any.strconv_Atoi_range_var Tryz.so s hlim h tp p w hvar
def Tryz.wX:Go.Shelf.Ren:=⟨fun|146=>55|221=>86|268=>113|138=>114|143=>115|195=>135|197=>136|218=>137|219=>138|260=>158|217=>159|225=>160|224=>161|267=>162|266=>173|314=>174|n=>n,fun|9=>9|31=>86|3=>3|4=>4|0=>0|105=>176|21=>21|5=>5|46=>203|119=>217|139=>220|138=>219|146=>221|51=>214|n=>n,fun|1=>0|3=>4|4=>5|n=>n⟩
theorem Tryz.EH:Go.Proofs.Lays.n146 Tryz.prog Tryz.wX:={
 mixed:=by kernel_rfl
 f138:=Tryz.func114.trans (congrArg some (by kernel_rfl))
 f143:=Tryz.func115.trans (congrArg some (by kernel_rfl))
 f146:=Tryz.func55.trans (congrArg some (by kernel_rfl))
 f195:=Tryz.func135.trans (congrArg some (by kernel_rfl))
 f197:=Tryz.func136.trans (congrArg some (by kernel_rfl))
 f217:=Tryz.func159.trans (congrArg some (by kernel_rfl))
 f218:=Tryz.func137.trans (congrArg some (by kernel_rfl))
 f219:=Tryz.func138.trans (congrArg some (by kernel_rfl))
 f221:=Tryz.func86.trans (congrArg some (by kernel_rfl))
 f224:=Tryz.func161.trans (congrArg some (by kernel_rfl))
 f225:=Tryz.func160.trans (congrArg some (by kernel_rfl))
 f260:=Tryz.func158.trans (congrArg some (by kernel_rfl))
 f266:=Tryz.func173.trans (congrArg some (by kernel_rfl))
 f267:=Tryz.func162.trans (congrArg some (by kernel_rfl))
 f268:=Tryz.func113.trans (congrArg some (by kernel_rfl))
 f314:=Tryz.func174.trans (congrArg some (by kernel_rfl))
 t0:=Tryz.underlying0
 a0:=Tryz.isAgg0
 z0:=Tryz.sizeOf0
 v0:=Tryz.zeroValue0
 t3:=Tryz.underlying3
 a3:=Tryz.isAgg3
 z3:=Tryz.sizeOf3
 v3:=Tryz.zeroValue3
 t4:=Tryz.underlying4
 a4:=Tryz.isAgg4
 z4:=Tryz.sizeOf4
 v4:=Tryz.zeroValue4
 t5:=Tryz.underlying5
 a5:=Tryz.isAgg5
 z5:=Tryz.sizeOf5
 v5:=Tryz.zeroValue5
 t9:=Tryz.underlying9
 a9:=Tryz.isAgg9
 z9:=Tryz.sizeOf9
 v9:=Tryz.zeroValue9
 t21:=Tryz.underlying21
 a21:=Tryz.isAgg21
 z21:=Tryz.sizeOf21
 v21:=Tryz.zeroValue21
 t31:=Tryz.underlying86
 a31:=Tryz.isAgg86
 z31:=Tryz.sizeOf86
 v31:=Tryz.zeroValue86
 t46:=Tryz.underlying203
 a46:=Tryz.isAgg203
 z46:=Tryz.sizeOf203
 v46:=Tryz.zeroValue203
 t51:=Tryz.underlying214
 a51:=Tryz.isAgg214
 z51:=Tryz.sizeOf214
 v51:=Tryz.zeroValue214
 t105:=Tryz.underlying176
 a105:=Tryz.isAgg176
 z105:=Tryz.sizeOf176
 v105:=Tryz.zeroValue176
 t119:=Tryz.underlying217
 a119:=Tryz.isAgg217
 z119:=Tryz.sizeOf217
 t138:=Tryz.underlying219
 a138:=Tryz.isAgg219
 z138:=Tryz.sizeOf219
 v138:=Tryz.zeroValue219
 t139:=Tryz.underlying220
 a139:=Tryz.isAgg220
 z139:=Tryz.sizeOf220
 v139:=Tryz.zeroValue220
 t146:=Tryz.underlying221
 a146:=Tryz.isAgg221
 z146:=Tryz.sizeOf221
 v146:=Tryz.zeroValue221
 g1:=by kernel_rfl
 g3:=by kernel_rfl
 g4:=by kernel_rfl}
open Go.RowKit Go.Lib in
theorem Tryz.strings_Split (s sep:ByteArray) (m:Int) (w:World) (hs:s.size<4294967281) (hm:w.cell? ⟨0,0,none⟩=some (.int .i64 m)) (h1:1≤sep.size) :
  Calls Tryz.prog 55 #[.string s,.string sep] w fun e w' =>
   e= .returned (.slice (some ⟨w.heap.size,0,none⟩) (Lib.countB s sep+1) (Lib.countB s sep+1))∧w'=w.alloc (.cells ((Lib.splitB sep 0 (Lib.countB s sep) s).map Value.string).toArray 9):=Any.strings_Split Tryz.EH (by kernel_rfl) s sep m w hs hm h1
end Go.Proofs
namespace Go.Proofs.YtaleoeblooeglaaGreatDoor
section
open Go.Shelf
def CV:Go.Shelf.Ren:=⟨fun|240=>111|276=>133|n=>n,fun|0=>0|4=>4|5=>5|9=>9|20=>20|37=>76|70=>75|72=>78|164=>172|n=>n,fun|n=>n⟩
theorem Ab:Go.Proofs.Lays.n240 Tryz.prog CV:={
 mixed:=by kernel_rfl
 f240:=Tryz.func111.trans (congrArg some (by kernel_rfl))
 f276:=Tryz.func133.trans (congrArg some (by kernel_rfl))
 t0:=Tryz.underlying0
 a0:=Tryz.isAgg0
 z0:=Tryz.sizeOf0
 v0:=Tryz.zeroValue0
 t4:=Tryz.underlying4
 a4:=Tryz.isAgg4
 z4:=Tryz.sizeOf4
 v4:=Tryz.zeroValue4
 t9:=Tryz.underlying9
 a9:=Tryz.isAgg9
 z9:=Tryz.sizeOf9
 v9:=Tryz.zeroValue9
 t20:=Tryz.underlying20
 a20:=Tryz.isAgg20
 z20:=Tryz.sizeOf20
 v20:=Tryz.zeroValue20
 t70:=Tryz.underlying75
 a70:=Tryz.isAgg75
 z70:=Tryz.sizeOf75
 v70:=Tryz.zeroValue75
 t72:=Tryz.underlying78
 a72:=Tryz.isAgg78
 z72:=Tryz.sizeOf78
 v72:=Tryz.zeroValue78
 t164:=Tryz.underlying172
 a164:=Tryz.isAgg172
 z164:=Tryz.sizeOf172
 v164:=Tryz.zeroValue172}
theorem HC:Builder.X72 Tryz.prog CV where
 sizeBuilder:=by kernel_rfl
 liesBuilder:=by kernel_rfl
end
section
namespace Pur
open Go.RowKit
section
open Go.RowKit Go.ChangeShapes Go.WideShapes Go.ChangeAt
def Typed (P:Program) (B:Nat):Nat→TypeId→List PV→Prop
 |0,_,_=>False
 |n+1,t,l=>match P.underlying t with
  |some .bool=>∃b,l=[.bool b]
  |some (.int k)=>∃x,l=[.int k x]∧(Lit.int k x).wf=true
  |some .string=>∃s,l=[.str s]∧s.length≤B
  |some (.slice e)=>∃m cs,l=[.sl m cs]∧m≤B∧cs.length=m*P.cellsOf e∧∀i,i<m→Typed P B n e ((cs.drop (i*P.cellsOf e)).take (P.cellsOf e))
  |some (.struct fs)=>l.length=P.cellsOf t∧∀(i:Nat) f,fs[i]?=some f→Typed P B n f.type ((l.drop f.offset).take (P.cellsOf f.type))
  |_=>False
def nh (P:Program):List Field→Nat→Nat→Bool
 |[],o,e=>Nat.beq o e
 |f::r,o,e=>Nat.beq f.offset o&&nh P r (o+P.cellsOf f.type) e
def wY (P:Program) (L:List TypeId):Bool:=L.all fun t=>match P.underlying t with
 |some .bool=>true
 |some (.int _)=>true
 |some .string=>true
 |some (.slice e)=>L.contains e&&Nat.ble 1 (P.cellsOf e)
 |some (.struct fs)=>fs.toList.all (fun f=>L.contains f.type)&&nh P fs.toList 0 (P.cellsOf t)
 |_=>false
structure wZ {H:Type} (B:Nat) (Sm:DataW H→Prop):Prop where
 slice:∀l m,Sm (.slice l m)→l.length≤maxLen→l.length≤B∧∀d∈l,Sm d
 agg:∀l,Sm (.agg l)→∀d∈l,Sm d
 str:∀l,Sm (.lit (.string l))→l.length≤maxLen→l.length≤B
theorem wZ.any {H:Type}:wZ maxLen (fun _:DataW H=>True):=⟨fun _ _ _ h=>⟨h,fun _ _=>trivial⟩,fun _ _ _ _=>trivial,fun _ _ h=>h⟩
section
variable {H:Type} {enc:TypeId×Value→H} {P:Program} {w:World} {B:Nat} {Sm:DataW H→Prop}
def pd (w:World) (g:Nat):Prop:=g<w.heap.size
theorem PW.app {α β:Type} {R:α→β→Prop} {l l':List α} {m m':List β} (h:PW R l m) (h':PW R l' m'):PW R (l++l') (m++m') :=
 ⟨by simp[h.len,h'.len],fun i a b ha hb=>by
  by_cases hi:i<l.length
  ·rw[List.getElem?_append_left hi]at ha;rw[List.getElem?_append_left (by rw[←h.len];exact hi)]at hb;exact h.at_ i a b ha hb
  ·rw[List.getElem?_append_right (by omega)]at ha;rw[List.getElem?_append_right (by rw[←h.len];omega),←h.len]at hb;exact h'.at_ _ a b ha hb⟩
theorem Bk {g o:Nat} {v:Value} (h:w.cell? ⟨g,o,none⟩=some v):g<w.heap.size:=by
 apply Classical.byContradiction;intro hn;have:w.heap[g]?=none:=Array.getElem?_eq_none (by omega);simp[World.cell?,this]at h
theorem pieces {α:Type} (z:Nat) (Q:Nat→List α→Prop):∀(m:Nat),(∀i,i<m→∃l:List α,l.length=z∧Q i l)→∃l:List α,l.length=m*z∧∀i,i<m→Q i ((l.drop (i*z)).take z)
 |0,_=>⟨[],by simp,fun i hi=>absurd hi (Nat.not_lt_zero i)⟩
 |m+1,h=>by
  obtain⟨l,hl,hq⟩:=pieces z Q m fun i hi=>h i (by omega)
  obtain⟨x,hx,hxq⟩:=h m (by omega);refine⟨l++x,by rw[List.length_append,hl,hx,Nat.succ_mul],fun i hi=>?_⟩;have hle:∀i,i<m→i*z+z≤m*z:=fun i hi=>by
   have:=Nat.mul_le_mul_right z (show i+1≤m by omega);rwa [Nat.succ_mul]at this
  by_cases him:i<m
  ·have:=hle i him;rw[List.drop_append_of_le_length (by omega),List.take_append_of_le_length (by rw[List.length_drop];omega)];exact hq i him
  ·have:i=m:=by omega
   subst this;rw[←hl,List.drop_left,List.take_of_length_le (by omega)];exact hxq
theorem CX {α:Type} {z m:Nat} {l:List α} (hl:l.length=m*z) {j:Nat} {x:α} (hx:l[j]?=some x):j / z<m∧((l.drop (j / z*z)).take z)[j % z]?=some x:=by
 have hj:j<m*z:=by rw[←hl];exact(List.getElem?_eq_some_iff.mp hx).1
 have hz:0<z:=by
  rcases Nat.eq_zero_or_pos z with h|h
  ·subst h;omega
  ·exact h
 refine⟨Nat.div_lt_of_lt_mul (by rw[Nat.mul_comm];exact hj),?_⟩;rw[List.getElem?_take,if_pos (Nat.mod_lt _ hz),List.getElem?_drop];have:j / z*z+j % z=j:=by rw[Nat.mul_comm];exact Nat.div_add_mod j z
 rw[this];exact hx
theorem qB {n:Nat} {cs:List Value} (ih:∀(t:TypeId) (cs:List Value),(∃x,DataW.trod enc P w 0 (fun _=>true) true n t cs=some x∧Sm x.1)→∀L:List TypeId,wY P L=true→t∈L→∃l,Typed P B n t l∧PW (Is w (pd w)) l cs∧∀c∈cs,c.oneCell'=true) (L:List TypeId) (hL:wY P L=true) :
  ∀(fs:List Field) (o e:Nat),nh P fs o e=true→(∀f∈fs,f.type∈L)→(∀f∈fs,∃x,DataW.trod enc P w 0 (fun _=>true) true n f.type ((cs.drop f.offset).take (P.cellsOf f.type))=some x∧Sm x.1)→(∀f∈fs,f.offset+P.cellsOf f.type≤cs.length) →
   o≤e∧∃l:List PV,PW (Is w (pd w)) l ((cs.drop o).take (e-o))∧(∀c∈(cs.drop o).take (e-o),c.oneCell'=true)∧∀f∈fs,o≤f.offset∧Typed P B n f.type ((l.drop (f.offset-o)).take (P.cellsOf f.type))
 |[],o,e,hc,_,_,_=>by
  simp only[nh]at hc;have:=Nat.eq_of_beq_eq_true hc;subst this;refine⟨Nat.le_refl _,[],?_,?_,fun f hf=>by cases hf⟩
  ·rw[Nat.sub_self,List.take_zero];exact⟨rfl,fun i a b h=>by simp at h⟩
  ·rw[Nat.sub_self,List.take_zero];intro c hc;cases hc
 |f::r,o,e,hc,ht,hx,hb=>by
  simp only[nh,Bool.and_eq_true]at hc;have ho:=Nat.eq_of_beq_eq_true hc.1;obtain⟨hle,l,h1,h2,h3⟩:=qB ih L hL r (o+P.cellsOf f.type) e hc.2 (fun g hg=>ht g (List.mem_cons_of_mem _ hg)) (fun g hg=>hx g (List.mem_cons_of_mem _ hg)) (fun g hg=>hb g (List.mem_cons_of_mem _ hg));obtain⟨x,hx0,hxs⟩:=hx f List.mem_cons_self;have hbf:=hb f List.mem_cons_self;rw[ho]at hx0 hbf;obtain⟨m,k1,k2,k3⟩:=ih f.type _ ⟨x,hx0,hxs⟩ L hL (ht f List.mem_cons_self);have hml:m.length=P.cellsOf f.type:=by rw[k2.len,List.length_take,List.length_drop];omega
  have hsplit:(cs.drop o).take (e-o)=(cs.drop o).take (P.cellsOf f.type)++(cs.drop (o+P.cellsOf f.type)).take (e-(o+P.cellsOf f.type)):=by
   rw[show e-o=P.cellsOf f.type+(e-(o+P.cellsOf f.type)) by omega,List.take_add,List.drop_drop]
  refine⟨by omega,m++l,?_,?_,fun g hg=>?_⟩
  ·rw[hsplit];exact k2.app h1
  ·rw[hsplit];intro c hc;rcases List.mem_append.mp hc with hc|hc
   ·exact k3 c hc
   ·exact h2 c hc
  ·cases hg with
   |head =>
    refine⟨by omega,?_⟩;rw[ho,Nat.sub_self,List.drop_zero,←hml,List.take_left];exact k1
   |tail _ hg =>
    obtain⟨g1,g2⟩:=h3 g hg;refine⟨by omega,?_⟩;rw[List.drop_append,hml,List.drop_eq_nil_of_le (by omega),List.nil_append,show g.offset-o-P.cellsOf f.type=g.offset-(o+P.cellsOf f.type) by omega];exact g2
theorem oz (hM:wZ B Sm):∀(n:Nat) (t:TypeId) (cs:List Value),(∃x,DataW.trod enc P w 0 (fun _=>true) true n t cs=some x∧Sm x.1)→∀L:List TypeId,wY P L=true→t∈L →
  ∃l,Typed P B n t l∧PW (Is w (pd w)) l cs∧∀c∈cs,c.oneCell'=true
 |0,t,cs,⟨x,h,_⟩,_,_,_=>by simp[DataW.trod]at h
 |n+1,t,cs,⟨x,h,hsm⟩,L,hL,ht=>by
  have hsh:=List.all_eq_true.mp hL t ht;have one:∀{p:PV} {v:Value},Is w (pd w) p v→PW (Is w (pd w)) [p] [v]:=fun {p v} h=>⟨rfl,fun i a b ha hb=>by
   match i,ha,hb with
   |0,ha,hb=>simp at ha hb;subst ha hb;exact h⟩
  cases hu:P.underlying t with
  |none=>rw[hu]at hsh;cases hsh
  |some d =>
   rw[hu]at hsh;cases d with
   |bool =>
    obtain⟨b,rfl,-⟩:=DataW.trod_bool hu h;exact⟨[.bool b],by simp only[Typed,hu];exact⟨b,rfl⟩,one (.bool b),fun c hc=>by simp at hc;subst hc;rfl⟩
   |int k =>
    obtain⟨m,rfl,-,hw⟩:=DataW.trod_int hu h;exact⟨[.int k m],by simp only[Typed,hu];exact⟨m,rfl,hw⟩,one (.int k m),fun c hc=>by simp at hc;subst hc;rfl⟩
   |string =>
    obtain⟨s,rfl,rfl,hs⟩:=DataW.trod_string hu h;exact⟨[.str s.data.toList],by simp only[Typed,hu];exact⟨_,rfl,hM.str _ hsm (by rw[Array.length_toList];exact hs)⟩,one (Ce w _ s),fun c hc=>by simp at hc;subst hc;rfl⟩
   |slice e =>
    simp only[Bool.and_eq_true]at hsh;have he:e∈L:=by simpa using hsh.1
    have hz:=Nat.le_of_ble_eq_true hsh.2;rcases DataW.trod_slice hu h with⟨rfl,-⟩|⟨a,len,cap,elems,rest,n',hn,rfl,rfl,-,hlc,hcm,hlen,hel,-,-⟩
    ·exact⟨[.sl 0 []],by simp only[Typed,hu];exact⟨0,[],rfl,Nat.zero_le _,(Nat.zero_mul _).symm,fun i hi=>absurd hi (Nat.not_lt_zero i)⟩,one .sl0,fun c hc=>by simp at hc;subst hc;rfl⟩
    ·injection hn with hn
     subst hn;obtain⟨hmB,hms⟩:=hM.slice _ _ hsm (by rw[List.length_map];omega);rw[List.length_map,hlen]at hmB;have each:∀i,i<len→∃cs,(w.cells? 0 (a.add (i*P.cellsOf e)) (P.cellsOf e))=some cs∧∃l,Typed P B n e l∧PW (Is w (pd w)) l cs∧∀c∈cs,c.oneCell'=true:=fun i hi=>by
      have h1:=hel i hi;have h2:∃y,elems[i]?=some y:=⟨elems[i]'(by omega),List.getElem?_eq_getElem (by omega)⟩
      obtain⟨y,hy⟩:=h2;rw[hy]at h1;obtain⟨cs,hc1,hc2⟩:=Option.bind_eq_some_iff.mp h1;exact⟨cs,hc1,oz hM n e cs ⟨y,hc2,hms _ (List.mem_map_of_mem (List.mem_of_getElem? hy))⟩ L hL he⟩
     cases len with
     |zero=>exact⟨[.sl 0 []],by simp only[Typed,hu];exact⟨0,[],rfl,Nat.zero_le _,(Nat.zero_mul _).symm,fun i hi=>absurd hi (Nat.not_lt_zero i)⟩,one (.slz a cap hcm),fun c hc=>by simp at hc;subst hc;rfl⟩
     |succ len =>
      have hspot:a.spot=none:=by
       obtain⟨cs,hc,-⟩:=each 0 (by omega);obtain⟨-,hcl,hcell⟩:=World.cells?_some hc;have h0:=hcell 0 (by omega);rw[List.getElem?_eq_getElem (by omega)]at h0;have h1:=World.cell?_spot h0;obtain⟨b,o,sp⟩:=a;cases sp with
       |none=>rfl
       |some q=>simp[Addr.add]at h1
      obtain⟨b,o,sp⟩:=a;subst hspot;obtain⟨l,hl,hq⟩:=pieces (P.cellsOf e) (fun i l=>Typed P B n e l∧∀(j:Nat) p,l[j]?=some p→∃v,w.cell? ⟨b,o+(i*P.cellsOf e+j),none⟩=some v∧Is w (pd w) p v∧v.oneCell'=true) (len+1) fun i hi=>by
       obtain⟨cs,hc,l,k1,k2,k3⟩:=each i hi;obtain⟨-,hcl,hcell⟩:=World.cells?_some hc;refine⟨l,by rw[k2.len,hcl],k1,fun j p hp=>?_⟩;have hj:j<l.length:=(List.getElem?_eq_some_iff.mp hp).1;have hjc:j<cs.length:=by rw[←k2.len];exact hj
       have h0:=hcell j (by omega);rw[List.getElem?_eq_getElem hjc,show((⟨b,o,none⟩:Addr).add (i*P.cellsOf e)).add j=⟨b,o+(i*P.cellsOf e+j),none⟩ by rw[add_plain,add_plain,Nat.add_assoc]]at h0;exact⟨_,h0,k2.at_ j p _ hp (List.getElem?_eq_getElem hjc),k3 _ (List.getElem_mem hjc)⟩
      have key:∀(i:Nat) p,l[i]?=some p→∃v,w.cell? ⟨b,o+i,none⟩=some v∧Is w (pd w) p v∧v.oneCell'=true:=fun i p hp=>by
       obtain⟨g1,g2⟩:=CX hl hp;obtain⟨v,h1,h2,h3⟩:=(hq _ g1).2 _ p g2;have:i / P.cellsOf e*P.cellsOf e+i % P.cellsOf e=i:=by rw[Nat.mul_comm];exact Nat.div_add_mod i _
       rw[this]at h1;exact⟨v,h1,h2,h3⟩
      have hb:pd w b:=by
       have:0<l.length:=by rw[hl];exact Nat.mul_pos (by omega) (by omega)
       obtain⟨v,h1,-⟩:=key 0 _ (List.getElem?_eq_getElem this);exact Bk h1
      refine⟨[.sl (len+1) l],by simp only[Typed,hu];exact⟨_,_,rfl,hmB,hl,fun i hi=>(hq i hi).1⟩,one ?_,fun c hc=>by simp at hc;subst hc;rfl⟩;refine .sl (len+1) l b o cap (fun i=>(w.cell? ⟨b,o+i,none⟩).getD undef) hb hlc hcm (fun i p hp=>?_) (fun i p hp=>?_) fun i p hp=>?_
      ·obtain⟨v,h1,-,-⟩:=key i p hp;rw[h1];rfl
      ·obtain⟨v,h1,-,h3⟩:=key i p hp;rw[h1];exact h3
      ·obtain⟨v,h1,h2,-⟩:=key i p hp;rw[h1];exact h2
   |struct fs =>
    simp only[Bool.and_eq_true]at hsh;obtain⟨xs,n',hn,rfl,hcl,hxl,hat⟩:=DataW.trod_struct hu h;injection hn with hn
    subst hn;have hin:∀f∈fs.toList,f.type∈L:=fun f hf=>by simpa using List.all_eq_true.mp hsh.1 f hf
    have hx:∀f∈fs.toList,∃x,DataW.trod enc P w 0 (fun _=>true) true n f.type ((cs.drop f.offset).take (P.cellsOf f.type))=some x∧Sm x.1:=fun f hf=>by
     obtain⟨i,hi⟩:=List.mem_iff_getElem?.mp hf;have hfi:fs[i]?=some f:=by rw[←Array.getElem?_toList];exact hi
     have h1:=hat i f hfi;have hil:i<xs.length:=by rw[hxl];exact(Array.getElem?_eq_some_iff.mp hfi).1
     exact⟨xs[i],by rw[h1,List.getElem?_eq_getElem hil],hM.agg _ hsm _ (List.mem_map_of_mem (List.getElem_mem hil))⟩
    have bound:∀(fs:List Field) (o e:Nat),nh P fs o e=true→o≤e∧∀f∈fs,f.offset+P.cellsOf f.type≤e:=by
     intro fs;induction fs with
     |nil =>
      intro o e h;simp only[nh]at h;have:=Nat.eq_of_beq_eq_true h;exact⟨by omega,fun f hf=>by cases hf⟩
     |cons f r ih =>
      intro o e h;simp only[nh,Bool.and_eq_true]at h;have h1:=Nat.eq_of_beq_eq_true h.1;obtain⟨g1,g2⟩:=ih _ e h.2;refine⟨by omega,fun g hg=>?_⟩;cases hg with
      |head=>omega
      |tail _ hg=>exact g2 g hg
    obtain⟨-,l,k1,k2,k3⟩:=qB (fun t cs hx L hL ht=>oz hM n t cs hx L hL ht) L hL fs.toList 0 (P.cellsOf t) hsh.2 hin hx (fun f hf=>by rw[hcl];exact(bound _ _ _ hsh.2).2 f hf);rw[List.drop_zero,Nat.sub_zero,List.take_of_length_le (by omega)]at k1 k2;refine⟨l,?_,k1,k2⟩;simp only[Typed,hu];refine⟨by rw[k1.len,hcl],fun i f hf=>?_⟩;have:=(k3 f (List.mem_iff_getElem?.mpr ⟨i,by rw[Array.getElem?_toList];exact hf⟩)).2;simpa using this
   |_=>cases hsh
def pZ (P:Program) (B:Nat) (t:TypeId) (p:PV):Prop:=∃n l,Typed P B n t l∧(bif (match P.underlying t with|some (.struct _)=>true|_=>false) then p= .agg l else l=[p])
def sq (P:Program) (B:Nat):List TypeId→List PV→Prop
 |[],[]=>True
 |t::ts,p::ps=>pZ P B t p∧sq P B ts ps
 |_,_=>False
theorem yT (hM:wZ B Sm) {L:List TypeId} (hL:wY P L=true) {t:TypeId} (ht:t∈L) {r:Reach} {b:Nat} {v:Value} {d:DataW H} {ps:List MemPlace} (hv:Value.okWide P w r b t v) (h:DataW.Trod enc P w 0 (fun _=>true) true t v d ps) (hs:Sm d) :
  ∃p,pZ P B t p∧Is w (pd w) p v:=by
 obtain⟨n,h⟩:=h;obtain⟨l,h1,h2,-⟩:=oz hM n t _ ⟨_,h,hs⟩ L hL ht;cases n with
 |zero=>exact h1.elim
 |succ n =>
 have hsh:=List.all_eq_true.mp hL t ht;unfold Value.okWide at hv;cases hu:P.underlying t with
 |none=>rw[hu]at hsh;cases hsh
 |some d =>
  rw[hu]at hsh hv;have leaf:(∀fs,d≠.struct fs)→(∃p,l=[p])→(∀cs,v≠.agg cs)→∃p,pZ P B t p∧Is w (pd w) p v:=fun hd hp hc=>by
   obtain⟨p,rfl⟩:=hp;have hcells:v.cells=#[v]:=by
    cases v<;>first|rfl|exact absurd rfl (hc _)
   rw[hcells]at h2;refine⟨p,⟨n+1,[p],h1,?_⟩,h2.at_ 0 p v rfl rfl⟩;rw[hu];cases d<;>first|rfl|exact absurd rfl (hd _)
  cases d with
  |struct fs =>
   obtain⟨cs,rfl,-⟩:=hv;refine⟨.agg l,⟨n+1,l,h1,by rw[hu];rfl⟩,?_⟩;have:=Is.agg (w:=w) (S:=pd w) l cs.toList h2.len h2.at_;simpa using this
  |bool =>
   simp only[Typed,hu]at h1;obtain⟨x,rfl⟩:=h1;refine leaf (by simp) ⟨_,rfl⟩ fun cs hc=>?_
   subst hc;simp[Cell.okWide,hu,Cell.ok]at hv
  |int k =>
   simp only[Typed,hu]at h1;obtain⟨x,rfl,-⟩:=h1;refine leaf (by simp) ⟨_,rfl⟩ fun cs hc=>?_
   subst hc;simp[Cell.okWide,hu,Cell.ok]at hv
  |string =>
   simp only[Typed,hu]at h1;obtain⟨x,rfl,-⟩:=h1;refine leaf (by simp) ⟨_,rfl⟩ fun cs hc=>?_
   subst hc;simp[Cell.okWide,hu,Cell.ok]at hv
  |slice e =>
   simp only[Typed,hu]at h1;obtain⟨m,x,rfl,-⟩:=h1;refine leaf (by simp) ⟨_,rfl⟩ fun cs hc=>?_
   subst hc;simp[Cell.okWide,hu,Cell.ok]at hv
  |_=>cases hsh
theorem w5 (hM:wZ B Sm) {L:List TypeId} (hL:wY P L=true) {r:Reach} {b:Nat}:∀(ts:List TypeId) (vs:List Value) (ds:List (DataW H)) (ps:List MemPlace),(∀t∈ts,t∈L)→(∀(j:Nat) t v,ts[j]?=some t→vs[j]?=some v→Value.okWide P w r b t v)→DataW.TrodAll enc P w 0 (fun _=>true) true ts vs ds ps→(∀d∈ds,Sm d) →
  ∃qs,sq P B ts qs∧PW (Is w (pd w)) qs vs
 |[],vs,ds,ps,_,_,h,_=>by
  obtain⟨rfl,rfl,rfl⟩:=trodAll_nil h;exact⟨[],trivial,rfl,fun i a b h=>by simp at h⟩
 |t::ts,vs,ds,ps,ht,hv,h,hs=>by
  obtain⟨v,vs',d,ds',p,q,rfl,rfl,rfl,h0,h1⟩:=trodAll_cons h;obtain⟨x,x1,x2⟩:=yT hM hL (ht t List.mem_cons_self) (hv 0 t v rfl rfl) h0 (hs d List.mem_cons_self);obtain⟨qs,y1,y2⟩:=w5 hM hL ts vs' ds' q (fun t h=>ht t (List.mem_cons_of_mem _ h)) (fun j t v h1 h2=>hv (j+1) t v h1 h2) h1 (fun d h=>hs d (List.mem_cons_of_mem _ h));refine⟨x::qs,⟨x1,y1⟩,by simp[y2.len],fun i a b ha hb=>?_⟩;cases i with
  |zero=>simp at ha hb;subst ha hb;exact x2
  |succ i=>exact y2.at_ i a b (by simpa using ha) (by simpa using hb)
theorem w6 (hl:laidOutB P=true) {w':World} {sp:Nat→Bool}:∀(ts:List TypeId) (vs:List Value) (ds:List (DataW H)) (ps:List MemPlace),(∀t∈ts,P.readableRec t=true∧t<P.types.size)→(∀p∈ps,w.sameAt w' p)→(∀p∈ps,sp p.block=true)→DataW.TrodAll enc P w 0 (fun _=>true) true ts vs ds ps →
  DataW.TrodAll enc P w' 0 sp true ts vs ds ps
 |[],vs,ds,ps,_,_,_,h=>by
  obtain⟨rfl,rfl,rfl⟩:=trodAll_nil h;exact trodAll_mk0
 |t::ts,vs,ds,ps,ht,hs,hsp,h=>by
  obtain⟨v,vs',d,ds',p,q,rfl,rfl,rfl,h0,h1⟩:=trodAll_cons h;exact⟨p,q,Go.WideElems.Trod_stays hl (ht t List.mem_cons_self).1 (ht t List.mem_cons_self).2 h0 (fun x hx=>hs x (List.mem_append_left _ hx)) (fun x hx=>hsp x (List.mem_append_left _ hx)),
   w6 hl ts vs' ds' q (fun t h=>ht t (List.mem_cons_of_mem _ h)) (fun x hx=>hs x (List.mem_append_right _ hx)) (fun x hx=>hsp x (List.mem_append_right _ hx)) h1,rfl⟩
theorem yU {w':World} (hb:Below w.heap.size w w') {p:MemPlace} (hp:p.block<w.heap.size):w.sameAt w' p:=by
 cases p with
 |cell b o=>exact World.cell?_of_block (hb.block b hp)
 |map b=>exact hb.block b hp
end
end
section
theorem CY {H:Type} (d:DataW H):1≤Rows.uptoBulk d:=by
 cases d with
 |lit l=>cases l<;>simp[Rows.uptoBulk]
 |_=>simp[Rows.uptoBulk]
theorem nO {H:Type}:∀{l:List (DataW H)} {d:DataW H},d∈l→Rows.uptoBulk d≤Rows.uptoBulkAll l
 |x::r,d,h=>by
  simp only[Rows.uptoBulkAll];rcases List.mem_cons.1 h with rfl|h
  ·omega
  ·have:=nO h;omega
theorem w7 {H:Type}:∀(l:List (DataW H)),l.length≤Rows.uptoBulkAll l
 |[]=>by simp[Rows.uptoBulkAll]
 |x::r=>by have:=CY x;have:=w7 r;simp only[Rows.uptoBulkAll,List.length_cons];omega
theorem wZ.upto {H:Type}:wZ 1048576 (fun d:DataW H=>Rows.uptoBulk d≤1048576):=by
 refine⟨fun l m h _=>?_,fun l h d hd=>?_,fun l h _=>?_⟩
 ·simp only[Rows.uptoBulk]at h;have:=w7 l;exact⟨by omega,fun d hd=>by have:=nO hd;omega⟩
 ·simp only[Rows.uptoBulk]at h;have:=nO hd;omega
 ·simp only[Rows.uptoBulk]at h;omega
theorem CZ {H:Type} {l:List (DataW H)} (hk:Rows.uptoSmall H l=true):∀d∈l,Rows.uptoBulk d≤1048576:=fun d hd=>by
 have h1:Rows.uptoBulkAll l≤1048576:=of_decide_eq_true hk;have:=nO hd;omega
end
section
section
variable {P:Program} {B n:Nat}
theorem GH {t:TypeId} {k:IntKind} {l:List PV} (h:Typed P B n t l) (hu:P.underlying t=some (.int k)):∃x,l=[.int k x]∧(Lit.int k x).wf=true:=by
 cases n with
 |zero=>exact h.elim
 |succ n=>simpa only[Typed,hu]using h
theorem iO {t:TypeId} {fs:Array Field} {l:List PV} (h:Typed P B n t l) (hu:P.underlying t=some (.struct fs)):l.length=P.cellsOf t∧∃m,n=m+1∧∀(i:Nat) f,fs[i]?=some f→Typed P B m f.type ((l.drop f.offset).take (P.cellsOf f.type)):=by
 cases n with
 |zero=>exact h.elim
 |succ n =>
  simp only[Typed,hu]at h;exact⟨h.1,n,rfl,h.2⟩
theorem piece {m:Nat} {fs:Array Field} {l:List PV} (hf:∀(i:Nat) f,fs[i]?=some f→Typed P B m f.type ((l.drop f.offset).take (P.cellsOf f.type))) (i o:Nat) (t:TypeId) {z:Nat} (hz:P.cellsOf t=z) (hi:(fs[i]?).map (fun f=>(f.offset,f.type))=some (o,t)) :
  Typed P B m t ((l.drop o).take z):=by
 obtain⟨f,h1,h2⟩:=Option.map_eq_some_iff.mp hi;injection h2 with h2 h3
 have:=hf i f h1;rw[h2,h3,hz]at this;exact this
theorem Ac {α:Type} (z:Nat) (enc:α→List PV) (Q:α→Prop) (he:∀x,Q x→(enc x).length=z):∀(m:Nat) (cs:List PV),cs.length=m*z→(∀i,i<m→∃x,(cs.drop (i*z)).take z=enc x∧Q x)→∃xs:List α,xs.length=m∧cs=xs.flatMap enc∧∀x∈xs,Q x
 |0,cs,hl,_=>by
  have:cs=[]:=List.eq_nil_of_length_eq_zero (by simpa using hl);subst this;exact⟨[],rfl,rfl,fun x hx=>by cases hx⟩
 |m+1,cs,hl,h=>by
  obtain⟨x,hx,hq⟩:=h 0 (by omega);rw[Nat.zero_mul,List.drop_zero]at hx;rw[Nat.succ_mul]at hl;obtain⟨xs,h1,h2,h3⟩:=Ac z enc Q he m (cs.drop z) (by rw[List.length_drop];omega) fun i hi=>by
   have:=h (i+1) (by omega);rw[List.drop_drop,show z+i*z=(i+1)*z by rw[Nat.succ_mul];omega];exact this
  refine⟨x::xs,by simp[h1],?_,fun y hy=>?_⟩
  ·rw[List.flatMap_cons,←h2,←hx,List.take_append_drop]
  ·rcases List.mem_cons.mp hy with rfl|hy
   ·exact hq
   ·exact h3 y hy
theorem ij {α:Type} {t e:TypeId} {l:List PV} (h:Typed P B n t l) (hu:P.underlying t=some (.slice e)) {z:Nat} (hz:P.cellsOf e=z) (enc:α→List PV) (Q:α→Prop) (he:∀x,Q x→(enc x).length=z)
  (hd:∀m c,m<n→Typed P B m e c→∃x,c=enc x∧Q x):∃xs:List α,l=[.sl xs.length (xs.flatMap enc)]∧xs.length≤B∧∀x∈xs,Q x:=by
 cases n with
 |zero=>exact h.elim
 |succ n =>
  simp only[Typed,hu,hz]at h;obtain⟨m,cs,rfl,hm,hl,hi⟩:=h;obtain⟨xs,h1,h2,h3⟩:=Ac z enc Q he m cs hl fun i him=>hd n _ (by omega) (hi i him)
  subst h1 h2;exact⟨xs,rfl,hm,h3⟩
theorem C0 {t:TypeId} {p:PV} {fs:Array Field} (h:pZ P B t p) (hu:P.underlying t=some (.struct fs)):∃n l,Typed P B n t l∧p= .agg l:=by
 obtain⟨n,l,h1,h2⟩:=h;rw[hu]at h2;exact⟨n,l,h1,h2⟩
end
end
section
open Sch
def canon:Nat→PV→PV
 |0,p=>p
 |d+1,p=>match p with
  | .nilsl=>.sl 0 []
  | .agg l=>.agg (l.map (canon d))
  | .tup l=>.tup (l.map (canon d))
  | .sl n l=>.sl n (l.map (canon d))
  |p=>p
theorem ni {w:World} {S:Nat→Prop}:∀(d:Nat) {p:PV} {v:Value},Is w S p v→Is w S (canon d p) v
 |0,_,_,h=>h
 |d+1,p,v,h=>by
  cases h with
  |int k n=>exact .int k n
  |bool b=>exact .bool b
  |str s=>exact .str s
  |agg l cs hl hat =>
   refine .agg _ cs (by simpa using hl) fun i q u h1 h2=>?_
   rw[List.getElem?_map]at h1;obtain⟨r,hr,rfl⟩:=Option.map_eq_some_iff.mp h1;exact ni d (hat i r u hr h2)
  |tup l cs hl hat =>
   refine .tup _ cs (by simpa using hl) fun i q u h1 h2=>?_
   rw[List.getElem?_map]at h1;obtain⟨r,hr,rfl⟩:=Option.map_eq_some_iff.mp h1;exact ni d (hat i r u hr h2)
  |nilsl=>exact .sl0
  |sl n l g o cap c hS h1 h2 hc h3 hi =>
   refine .sl n _ g o cap c hS h1 h2 (fun i q hq=>?_) (fun i q hq=>?_) fun i q hq=>?_
   all_goals
    rw[List.getElem?_map]at hq;obtain⟨r,hr,rfl⟩:=Option.map_eq_some_iff.mp hq
   ·exact hc i r hr
   ·exact h3 i r hr
   ·exact ni d (hi i r hr)
  |sl0=>exact .sl0
  |slz a cap h=>exact .slz a cap h
  |val v=>exact .val v
  |iface t p=>exact .iface t p
  |mp l r es clock a b c d=>exact .mp l r es clock a b c d
theorem aj.oA {C:Ctx} {f:FuncId} {ps:List PV} {r:PV} (d:Nat) (h:aj C f (ps.map (canon d)) r):aj C f ps r :=
 ⟨h.1,fun w S vs hE hS hp=>h.2 w S vs hE hS ⟨by rw[List.length_map];exact hp.len,fun i p v h1 h2=>by
  rw[List.getElem?_map]at h1;obtain⟨q,hq,rfl⟩:=Option.map_eq_some_iff.mp h1;exact ni d (hp.at_ i q v hq h2)⟩⟩
theorem aj.p6 {C:Ctx} {f:FuncId} {ps:List PV} {r:PV} (d:Nat) (h:aj C f ps r):aj C f ps (canon d r) :=
 ⟨h.1,fun w S vs hE hS hp=>(h.2 w S vs hE hS hp).mono fun e w' hh=>by
  obtain⟨v,h1,h2,h3⟩:=hh;exact⟨v,h1,h2,ni d h3⟩⟩
theorem aj.ss {f:FuncId} {ps:List PV} {r:PV} (hc:ep Tryz.prog f=true) (h:∀(w:World) (S:Nat→Prop) (vs:List Value),Env w→(∀g,S g→g<w.heap.size)→PW (Is w S) ps vs →
  Calls Tryz.prog f vs.toArray w fun e w'=>∃v,e= .returned v∧Below w.heap.size w w'∧(∀w' S',Is w' S' r v)):aj ctx f ps r :=
 ⟨hc,fun w S vs hE hS hp=>(h w S vs hE hS hp).mono fun e w' hh=>by
  obtain⟨v,h1,h2,h3⟩:=hh;exact⟨v,h1,h2,h3 _ _⟩⟩
theorem Jy {w:World} {S:Nat→Prop} {p:PV} {vs:List Value} (h:PW (Is w S) [p] vs):∃v,vs=[v]∧Is w S p v:=by
 match vs,h.len with
 |[v],_=>exact⟨v,rfl,h.at_ 0 p v rfl rfl⟩
theorem Jz {w:World} {S:Nat→Prop} {p q:PV} {vs:List Value} (h:PW (Is w S) [p,q] vs):∃v u,vs=[v,u]∧Is w S p v∧Is w S q u:=by
 match vs,h.len with
 |[v,u],_=>exact⟨v,u,rfl,h.at_ 0 p v rfl rfl,h.at_ 1 q u rfl rfl⟩
theorem oB {w:World} {S:Nat→Prop} {l:List UInt8} {v:Value} (h:Is w S (.str l) v):v= .string ⟨l.toArray⟩:=by cases h;rfl
theorem su {w:World} {S:Nat→Prop} {k:IntKind} {n:Int} {v:Value} (h:Is w S (.int k n) v):v= .int k n:=by cases h;rfl
theorem vv {w:World} {S:Nat→Prop} {p q:PV} {u v:Value} (h1:Is w S p u) (h2:Is w S q v):Is w S (.tup [p,q]) (.tuple #[u,v]) :=
 .tup [p,q] [u,v] rfl fun i r x hr hx=>by
  match i,hr,hx with
  |0,hr,hx=>simp at hr hx;subst hr hx;exact h1
  |1,hr,hx=>simp at hr hx;subst hr hx;exact h2
theorem EI (n:Int) (h0: -9223372036854775808≤n) (h1:n≤9223372036854775807):aj ctx 84 [.int .i64 n] (.str (Lib.itoa n)):=by
 refine aj.ss (by kernel_rfl) fun w S vs hE hS hp=>?_
 obtain⟨v,rfl,hv⟩:=Jy hp;have:=su hv;subst this;refine(Tryz.strconv_Itoa n h0 h1 w hE.tab).mono fun e w' ⟨he,k,os,hw⟩=>⟨_,he,?_,fun _ _=>.str _⟩
 rw[hw];exact below_grown_sl w.heap.size w k os (Nat.le_refl _)
def pe (l:List UInt8):PV:=match Lib.atoiAll l with
 | .ok v=>.tup [.int .i64 v,.val .nilIface]
 | .range=>.tup [.int .i64 (Lib.atoiSat l),.iface]
 |_=>.tup [.int .i64 0,.iface]
theorem EJ (l:List UInt8) (hl:l.length≤281474976710656):aj ctx 88 [.str l] (pe l):=by
 refine aj.ss (by kernel_rfl) fun w S vs hE hS hp=>?_
 obtain⟨v,rfl,hv⟩:=Jy hp;have:=oB hv;subst this;have hsz:(⟨l.toArray⟩:ByteArray).size=l.length:=by simp[ByteArray.size]
 unfold pe;cases ha:Lib.atoiAll l;case ok n =>
  refine(Tryz.strconv_Atoi_ok ⟨l.toArray⟩ (by omega) n ha w).mono fun e w' ⟨he,hw⟩=>⟨_,he,?_,fun _ _=>vv (.int _ _) (.val _)⟩
  rcases hw with rfl|⟨t,rfl⟩
  ·exact Below.refl _ _
  ·exact Go.Joins.below_bytesWorld _ w _ t (Nat.le_refl _)
 case range =>
  obtain⟨tp,p,hv⟩:=hE.ran;refine(Tryz.strconv_Atoi_range_var ⟨l.toArray⟩ (by omega) ha tp p w hv).mono fun e w' ⟨N,he,_,_,hb⟩=>⟨_,he,hb,fun _ _=>vv (.int _ _) (.iface _ _)⟩
 ·obtain⟨tp,p,hv⟩:=hE.syn;refine(Any.strconv_Atoi_syntax_var Tryz.so ⟨l.toArray⟩ (by omega) ha tp p w hv).mono fun e w' ⟨N,he,_,_,hb⟩=>⟨_,he,hb,fun _ _=>vv (.int _ _) (.iface _ _)⟩
end
end Pur
end
section
namespace Pur
theorem w8 {w:World} {S:Nat→Prop} {b:Bool} {v:Value} (h:Is w S (.bool b) v):v= .bool b:=by cases h;rfl
end Pur
end
end Go.Proofs.YtaleoeblooeglaaGreatDoor
namespace Go.Proofs.YtaleoeblooeglaaGreatDoor.Cd
open Go.ChangeShapes Go.WideShapes Go.ChangeAt Go.RowKit
theorem nZ {P:Program} {W:World} {name nm:String} {d:DataW Unit} {g:Nat} {t:TypeId} {ms:Array (String×TypeId)}
  (hg:P.globalNamed name=some g) (hty:(P.globals[g]?).map (·.type)=some t) (ht:P.underlying t=some (.interface ms)) :
  ∀(laid:List (String×DataW Unit)) (ps:List MemPlace),DataW.LaidVars P W laid ps→(name,DataW.iface nm d)∈laid→∃tp p,W.var? P name=some #[.iface tp p]:=by
 intro laid;induction laid with
 |nil=>intro ps _ hm;cases hm
 |cons x rest ih =>
  intro ps h hm;obtain⟨nm',d'⟩:=x;obtain⟨g',t',cs,fuel,p,q,hg',ht',hvar,hd,hrest,_⟩:=h;rcases List.mem_cons.1 hm with hm|hm
  ·obtain⟨rfl,rfl⟩:=Prod.mk.inj hm;obtain rfl:=Option.some.inj (hg.symm.trans hg');obtain rfl:=Option.some.inj (hty.symm.trans ht');rw[hvar];obtain⟨l⟩:=cs;cases fuel with
   |zero=>simp[DataW.trod]at hd
   |succ fuel =>
    simp only[DataW.trod,ht]at hd;match l,hd with
    |[],hd=>simp at hd
    |[v],hd =>
     cases v<;>simp at hd;exact⟨_,_,rfl⟩
    |_::_::_,hd=>simp at hd
  ·exact ih q hrest hm
theorem vw {P:Program} {w:World} {g:Nat} {t:TypeId} {zero:Array Value} (h:w.ShapedOpen P) (hg:g<P.globals.size)
  (h0:((begin P (fun _ _=>0) default).world.heap[g]?).bind Obj.row?=some (zero,t)) (hz:zero.size=1)
  (hb:P.buildable t=true) (hc:P.cellTypes P.depth t=some [t]) (hu:P.underlying t=some (.int .i64)):∃m,w.cell? ⟨g,0,none⟩=some (.int .i64 m):=by
 obtain⟨cs,hh,hs,hr⟩:=h.1 g zero t hg h0;obtain⟨ts,hts,_,hall⟩:=hr hb;rw[hc]at hts;cases hts;have h1:0<cs.size:=by omega
 obtain⟨u,hu',hok⟩:=hall 0 cs[0] (by simp[h1]);have:u=t:=by simpa using hu'.symm
 subst this;have hcell:w.cell? ⟨g,0,none⟩=some cs[0]:=by simp[World.cell?,hh,h1]
 rw[hcell];unfold Cell.ok at hok;rw[hu]at hok;cases hv:cs[0]<;>rw[hv]at hok<;>first|(simp at hok;done)|skip
 obtain⟨rfl,_⟩:=hok;exact⟨_,rfl⟩
theorem own:ownKnob Tryz.prog.godebug=none:=by kernel_rfl
theorem C1:(Tryz.prog.globals[3]?).map (·.type)=some 213:=by kernel_rfl
theorem C2:Tryz.prog.cellsOf 213=20:=by kernel_rfl
theorem Bl:Tryz.prog.cellsOf 197=1:=by kernel_rfl
theorem C3:(Tryz.prog.globals[1]?).map (·.type)=some 123:=by kernel_rfl
theorem C4:(Tryz.prog.globals[2]?).map (·.type)=some 123:=by kernel_rfl
theorem GI {W:World} (h:laidMetH Tryz.prog Rows.refutationFormsUptoRow.laid W) (hsh:W.ShapedOpen Tryz.prog):Env W:=by
 obtain⟨ps,hv,_⟩:laidMet Tryz.prog Rows.refutationFormsUptoRow.laid W:=h;refine⟨?_,?_,?_,?_⟩
 ·exact tF Tryz.GC C1 Tryz.underlying213 Tryz.underlying197 Bl C2 _ ps hv (by
   simp only[Rows.refutationFormsUptoRow,List.mem_cons,List.not_mem_nil,or_false];right;right;left;rfl)
 ·exact nZ (nm := "*errors.errorString") (d := .ptr (.agg [.lit (.string [105, 110, 118, 97, 108, 105, 100, 32, 115, 121, 110, 116, 97, 120])])) Tryz.GD C3 Tryz.underlying123 _ ps hv (by
   simp only[Rows.refutationFormsUptoRow,List.mem_cons,List.not_mem_nil,or_false];right;right;right;right;right;left;rfl)
 ·exact nZ (nm := "*errors.errorString") (d := .ptr (.agg [.lit (.string [118, 97, 108, 117, 101, 32, 111, 117, 116, 32, 111, 102, 32, 114, 97, 110, 103, 101])])) Tryz.GG C4 Tryz.underlying123 _ ps hv (by
   simp only[Rows.refutationFormsUptoRow,List.mem_cons,List.not_mem_nil,or_false];right;right;right;right;left;rfl)
 ·exact vw (zero:=#[.int .i64 0]) hsh (of_decide_eq_true (by kernel_rfl)) (t:=3) (by kernel_rfl) rfl (by kernel_rfl) (by kernel_rfl) Tryz.underlying3
end Go.Proofs.YtaleoeblooeglaaGreatDoor.Cd
namespace Go.Proofs.YtaleoeblooeglaaGreatDoor
section
namespace Rf
structure aS where
 kind:Int
 index:Int
 cell:Int
 deriving DecidableEq
inductive Tree where
 |node (kind:Int) (steps:List aS) (cell pos:Int) (kids:List Tree)
def Tree.kind:Tree→Int| .node k _ _ _ _=>k
def Tree.steps:Tree→List aS| .node _ s _ _ _=>s
def Tree.cell:Tree→Int| .node _ _ c _ _=>c
def Tree.pos:Tree→Int| .node _ _ _ a _=>a
def Tree.kids:Tree→List Tree| .node _ _ _ _ l=>l
def zt:Tree:=.node 0 [] 0 0 []
def zs:aS:=⟨0,0,0⟩
theorem Tree.ind {P:Tree→Prop} (h:∀k s c a l,(∀t∈l,P t)→P (.node k s c a l)):∀t,P t
 | .node k s c a l=>h k s c a l fun t _=>Tree.ind h t
def wt:Tree→Nat
 | .node _ s _ _ l=>1+s.length+(l.attach.map fun x=>wt x.1).sum
decreasing_by
 have:=List.sizeOf_lt_of_mem x.2;simp;omega
def fg:List Tree→Nat
 |[]=>0
 |t::r=>wt t+fg r
def bU:Tree→Nat
 | .node _ s _ _ l=>s.length+(l.attach.map fun x=>bU x.1).sum
decreasing_by
 have:=List.sizeOf_lt_of_mem x.2;simp;omega
def bj:List Tree→Nat
 |[]=>0
 |t::r=>bU t+bj r
def db:Tree→Nat
 | .node _ _ _ _ l=>(l.attach.map fun x=>db x.1).foldr max 0+1
decreasing_by
 have:=List.sizeOf_lt_of_mem x.2;simp;omega
def bR:List Tree→Nat
 |[]=>0
 |t::r=>max (db t) (bR r)
theorem C5:∀l,(l.map wt).sum=fg l
 |[]=>rfl
 |t::r=>by rw[List.map_cons,List.sum_cons,C5 r,fg]
theorem sw:∀l,(l.map bU).sum=bj l
 |[]=>rfl
 |t::r=>by rw[List.map_cons,List.sum_cons,sw r,bj]
theorem sy:∀l,(l.map db).foldr max 0=bR l
 |[]=>rfl
 |t::r=>by rw[List.map_cons,List.foldr_cons,sy r,bR]
theorem attach_map {α:Type} (f:Tree→α) (l:List Tree):(l.attach.map fun x=>f x.1)=l.map f:=by
 simp
theorem bE (k:Int) (s:List aS) (c a:Int) (l:List Tree):wt (.node k s c a l)=1+s.length+fg l:=by
 rw[wt,attach_map,C5]
theorem fv (k:Int) (s:List aS) (c a:Int) (l:List Tree):bU (.node k s c a l)=s.length+bj l:=by
 rw[bU,attach_map,sw]
theorem jA (k:Int) (s:List aS) (c a:Int) (l:List Tree):db (.node k s c a l)=bR l+1:=by
 rw[db,attach_map,sy]
theorem iP:∀a b,fg (a++b)=fg a+fg b
 |[],b=>by simp[fg]
 |t::r,b=>by rw[List.cons_append,fg,fg,iP r b];omega
theorem ik:∀a b,bj (a++b)=bj a+bj b
 |[],b=>by simp[bj]
 |t::r,b=>by rw[List.cons_append,bj,bj,ik r b];omega
theorem nj:∀a b,bR (a++b)=max (bR a) (bR b)
 |[],b=>by simp[bR]
 |t::r,b=>by rw[List.cons_append,bR,bR,nj r b];omega
theorem fw:∀{l:List Tree} {t:Tree},t∈l→wt t≤fg l
 |x::r,t,h=>by
  rw[fg];cases h with
  |head=>omega
  |tail _ h=>have:=fw h;omega
theorem dR:∀l:List Tree,l.length≤fg l
 |[]=>Nat.zero_le _
 |t::r=>by
  have:=dR r;have h:1≤wt t:=by cases t;rw[bE];omega
  rw[fg,List.length_cons];omega
theorem nk (l:List Tree) (k:Nat):fg (l.take k)≤fg l:=by
 have:=iP (l.take k) (l.drop k);rw[List.take_append_drop]at this;omega
theorem gV:∀t,bU t≤wt t:=by
 refine Tree.ind fun k s c a l ih=>?_
 have:∀l:List Tree,(∀t∈l,bU t≤wt t)→bj l≤fg l:=fun l=>by
  induction l with
  |nil=>intro _;simp[bj]
  |cons t r ihr =>
   intro h;have h1:=h t (by simp);have h2:=ihr fun x hx=>h x (by simp[hx])
   rw[bj,fg];omega
 have:=this l ih;rw[fv,bE];omega
theorem fy:∀l:List Tree,bj l≤fg l
 |[]=>Nat.le_refl _
 |t::r=>by
  have h1:=gV t;have h2:=fy r;rw[bj,fg];omega
theorem Bm:∀t,db t≤wt t:=by
 refine Tree.ind fun k s c a l ih=>?_
 have:∀l:List Tree,(∀t∈l,db t≤wt t)→bR l≤fg l:=fun l=>by
  induction l with
  |nil=>intro _;simp[bR]
  |cons t r ihr =>
   intro h;have h1:=h t (by simp);have h2:=ihr fun x hx=>h x (by simp[hx])
   rw[bR,fg];omega
 have:=this l ih;rw[jA,bE];omega
theorem qC:∀l:List Tree,bR l≤fg l
 |[]=>Nat.le_refl _
 |t::r=>by
  have h1:=Bm t;have h2:=qC r;rw[bR,fg];omega
end Rf
namespace Pur
open Rf
theorem cg {α:Type} {g:α→List PV} {m:Nat} (hg:∀x,(g x).length=m):∀(l:List α),(l.flatMap g).length=l.length*m
 |[]=>by simp
 |x::r=>by rw[List.flatMap_cons,List.length_append,hg,cg hg r,List.length_cons,Nat.succ_mul,Nat.add_comm]
theorem cX {α:Type} {g:α→List PV} {m:Nat} (hg:∀x,(g x).length=m):∀(l:List α) (k:Nat) (d:α) (j:Nat),k<l.length→j<m→(l.flatMap g)[k*m+j]?=(g (l.getD k d))[j]?
 |[],k,_,_,h,_=>by simp at h
 |x::r,0,d,j,_,hj=>by
  rw[List.flatMap_cons,List.getElem?_append_left (by rw[hg];omega)];simp
 |x::r,k+1,d,j,h,hj=>by
  rw[List.flatMap_cons,List.getElem?_append_right (by rw[hg,Nat.succ_mul];omega),hg,show(k+1)*m+j-m=k*m+j by rw[Nat.succ_mul];omega,cX hg r k d j (by simpa using h) hj];simp
theorem bM {α:Type} {g:α→List PV} {m:Nat} (hg:∀x,(g x).length=m) (l:List α) (k:Nat) (d:α) (hk:k<l.length):((l.flatMap g).drop (k*m)).take m=g (l.getD k d):=by
 refine List.ext_getElem? fun j=>?_
 by_cases hj:j<m
 ·rw[List.getElem?_take,if_pos hj,List.getElem?_drop,cX hg l k d j hk hj]
 ·rw[List.getElem?_take,if_neg hj,List.getElem?_eq_none (by rw[hg];omega)]
theorem aJ {α:Type} (l:List α) (k:Nat) (d:α) (hk:k<l.length):l.take (k+1)=l.take k++[l.getD k d]:=by
 rw[List.take_add_one,List.getD,List.getElem?_eq_getElem hk];rfl
theorem aO {α:Type} {l:List α} {k:Nat} {d:α} (h:k<l.length):l.getD k d∈l:=by
 rw[List.getD,List.getElem?_eq_getElem h];exact List.getElem_mem h
def aw (x:aS):List PV:=[.int .i64 x.kind,.int .i64 x.index,.int .i64 x.cell]
def cj (x:aS):PV:=.agg (aw x)
def aa (l:List aS):PV:=.sl l.length (l.flatMap aw)
def cy:Tree→List PV
 | .node k s c a l=>[.int .i64 k,aa s,.int .i64 c,.int .i64 a,.sl l.length (l.attach.map fun x=>cy x.1).flatten]
decreasing_by
 have:=List.sizeOf_lt_of_mem x.2;simp;omega
def ah (l:List Tree):PV:=.sl l.length (l.flatMap cy)
theorem fC (k:Int) (s:List aS) (c a:Int) (l:List Tree):cy (.node k s c a l)=[.int .i64 k,aa s,.int .i64 c,.int .i64 a,ah l]:=by
 rw[cy,attach_map,ah,List.flatMap_def]
def aA (t:Tree):PV:=.agg [.int .i64 t.kind,aa t.steps,.int .i64 t.cell,.int .i64 t.pos,ah t.kids]
theorem sA (t:Tree):cy t=[.int .i64 t.kind,aa t.steps,.int .i64 t.cell,.int .i64 t.pos,ah t.kids]:=by
 cases t with|node k s c a l=>exact fC k s c a l
theorem c7 (t:Tree):(cy t).length=5:=by rw[sA];rfl
theorem bu (x:aS):(aw x).length=3:=rfl
def ae (t:Tree):dT:=⟨[.pv (.int .i64 t.kind),.pv (aa t.steps),.pv (.int .i64 t.cell),.pv (.int .i64 t.pos),.pv (ah t.kids)],0,5,25,false⟩
theorem cK (l:List Tree) (k:Nat) (hk:k<l.length):((l.flatMap cy).drop (k*5)).take 5=[.int .i64 (l.getD k zt).kind,aa (l.getD k zt).steps,.int .i64 (l.getD k zt).cell,.int .i64 (l.getD k zt).pos,ah (l.getD k zt).kids]:=by
 rw[bM c7 l k zt hk,sA]
theorem cL (l:List Tree):(l.flatMap cy).length=l.length*5:=cg c7 l
theorem cR (l:List aS):(l.flatMap aw).length=l.length*3:=cg bu l
end Pur
end
section
def mF (c:UInt8):List UInt8→List (List UInt8)
 |[]=>[[]]
 |x::r=>if x=c then []::mF c r else match mF c r with
  |h::t=>(x::h)::t
  |[]=>[[x]]
theorem yV (c:UInt8):∀s,mF c s≠[]
 |[]=>by simp[mF]
 |x::r=>by
  unfold mF;split
  ·simp
  ·split<;>simp
theorem oC (c:UInt8):∀s:List UInt8,Lib.splitK [c] 0 (Lib.count s [c]) s=mF c s
 |[]=>by rw[Lib.count_miss (by simp[Lib.index])];rfl
 |x::r=>by
  have ih:=oC c r;by_cases h:x=c
  ·subst h;have hix:Lib.index (x::r) [x]=0:=by rw[Lib.index];simp[List.isPrefixOf]
   rw[Lib.count_cons_eq,Nat.add_comm,Lib.splitK,hix];simp only[mF];simpa using ih
  ·rw[Lib.count_cons_ne x c r h];have hp:([c]:List UInt8).isPrefixOf (x::r)=false:=by simp[List.isPrefixOf,Ne.symm h]
   have hix:Lib.index (x::r) [c]=if Lib.index r [c]== -1 then -1 else Lib.index r [c]+1:=by rw[Lib.index,hp];simp
   simp only[mF,if_neg h];cases hk:Lib.count r [c] with
   |zero =>
    rw[hk]at ih;rw[←ih];rfl
   |succ k =>
    rw[hk]at ih;have hne:Lib.index r [c]≠ -1:=fun he=>by rw[Lib.count_miss he]at hk;cases hk
    have hge:=Lib.index_ge r [c];obtain⟨j,hj⟩:∃j:Nat,Lib.index r [c]=j:=⟨(Lib.index r [c]).toNat,by omega⟩
    have h1:Lib.index (x::r) [c]=((j+1:Nat):Int):=by rw[hix,if_neg (by simpa using hne),hj];omega
    rw[Lib.splitK,h1,if_neg (by simp;omega)];rw[Lib.splitK,hj,if_neg (by simp)]at ih;rw[←ih];simp
theorem EK (c:UInt8) (s:List UInt8):(mF c s).length=Lib.count s [c]+1:=by
 rw[←oC];have:=Lib.splitB_all ⟨#[c]⟩ (by simp[ByteArray.size]) 0 (Lib.count s [c]) ⟨s.toArray⟩ rfl;have h2:=Lib.splitB_data ⟨#[c]⟩ 0 (Lib.count s [c]) ⟨s.toArray⟩;rw[show(⟨#[c]⟩:ByteArray).data.toList=[c] from rfl,show(⟨s.toArray⟩:ByteArray).data.toList=s from rfl]at h2;rw[←h2,List.length_map,this]
namespace Pur
open Go.RowKit
def fU (l:List (List UInt8)):PV:=.sl l.length (l.map .str)
theorem w9 (c:UInt8) (s:List UInt8) (hs:s.length<4294967281):aj ctx 55 [.str s,.str [c]] (fU (mF c s)):=by
 refine⟨by kernel_rfl,fun w S vs hE hS hp=>?_⟩;obtain⟨v,u,rfl,hv,hu⟩:=Jz hp;have hv:=oB hv;have hu:=oB hu;subst hv hu;obtain⟨m,hm⟩:=hE.ml;have hlen:=EK c s;have hdat:=Lib.splitB_data ⟨#[c]⟩ 0 (Lib.count s [c]) ⟨s.toArray⟩;rw[show(⟨#[c]⟩:ByteArray).data.toList=[c] from rfl,show(⟨s.toArray⟩:ByteArray).data.toList=s from rfl,oC]at hdat;have hcnt:Lib.count s [c]≤s.length+1:=Lib.count_le s [c];refine(Tryz.strings_Split ⟨s.toArray⟩ ⟨#[c]⟩ m w (by simpa [ByteArray.size]using hs) hm (by simp[ByteArray.size])).mono fun e w' ⟨he,hw⟩=>⟨_,he,?_,?_⟩
 ·subst hw;exact⟨rfl,rfl,rfl,by simp,fun k hk=>Below.heap_alloc w _ k hk⟩
 ·subst hw;unfold fU;rw[hlen];show Is _ _ _ (.slice (some ⟨w.heap.size,0,none⟩) (Lib.count s [c]+1) (Lib.count s [c]+1));have hat:∀(i:Nat) x,(mF c s)[i]?=some x→((Lib.splitB ⟨#[c]⟩ 0 (Lib.count s [c]) ⟨s.toArray⟩).map Value.string)[i]?=some (.string ⟨x.toArray⟩):=fun i x hx=>by
   rw[←hdat,List.getElem?_map]at hx;obtain⟨b,hb,rfl⟩:=Option.map_eq_some_iff.mp hx;rw[List.getElem?_map,hb];rfl
  refine .sl _ _ w.heap.size 0 _ (fun i=>.string ⟨((mF c s).getD i []).toArray⟩) (.inr ⟨Nat.le_refl _,by simp⟩) (Nat.le_refl _) (by show Lib.count s [c]+1≤maxLen;unfold maxLen;omega) (fun i p hp=>?_) (fun i p hp=>rfl) fun i p hp=>?_
  all_goals
   rw[List.getElem?_map]at hp;obtain⟨x,hx,rfl⟩:=Option.map_eq_some_iff.mp hp
  ·have:=hat i x hx;rw[List.getD,hx];have hnew:(w.alloc (.cells ((Lib.splitB ⟨#[c]⟩ 0 (Lib.count s [c]) ⟨s.toArray⟩).map Value.string).toArray 9)).heap[w.heap.size]?=some (.cells ((Lib.splitB ⟨#[c]⟩ 0 (Lib.count s [c]) ⟨s.toArray⟩).map Value.string).toArray 9 (0,0)):=World.alloc_heap_new w _;simp only[World.cell?,hnew,Nat.zero_add];rw[List.getElem?_toArray,this];rfl
  ·rw[List.getD,hx];exact .str x
end Pur
end
section
namespace Pur
open Go.RowKit
abbrev ξ (n:Nat) (p:PV):Nat×Hint:=(n,{val:=some (.pv p)})
attribute [local go_sem] ξ bV gF cd bI cG jK List.map bB aR get put tmpsOf eY oK kY oa conds ev cond_true cond_false Nat.beq Nat.ble Nat.add quiet fc cW dH zP List.append_eq List.nil_append List.cons_append eX gq gr gu gv gw gx kf jM fQ pC gZ calm quiet.isCallK dU List.getElem?_cons_zero List.getElem?_cons_succ cE dM cellsOf List.all bZ List.length_cons List.length_nil jr bC List.drop List.take List.getD Option.getD_some Eb Ec Cn Ed Ee Ef kZ nY k6 k7 setAt List.set Nat.reduceAdd Nat.reduceMul dy ca refsOf bW cS scalar eJ gO cU eI bA after freeze mT l5 bw fS iN jk iB iV iW gf iX iY jb jc jd je jf jg jh ji jj gg gi gj fR pD bytesOf cf fk a8 cH fN bP cF dV still dk gN eC jH cA iC List.isEmpty gk gm gp Int.reduceToNat Nat.mul_one Nat.reduceSub yx fp ef fl fe look fm strip guarded my iE jq eH jG ek mD iZ ja Bool.or_false Bool.or_true Bool.and_true Bool.and_false Nat.blt iz gI j0 dB idxOf kp l6 o4 gy bA tz
section
open Rf
def HD:ay:=(⟨_,by conv=>(lhs;reduce;try simp only[cJ,Int.cast_ofNat_Int,Int.reduceNegSucc,UInt8.reduceOfNat])⟩:{x // codeOf Tryz.prog 16 (fun _=>false)=some x}).1
theorem IL:bp Tryz.prog 16 (fun _=>false)=some (HD,[.t 2],24,true):=by kernel_rfl
theorem xd:∀(t:Tree),wt t≤1000000000→aj ctx 16 [aA t] (.int .i64 (bU t)):=by
 refine Tree.ind fun kd s c a l ih hw=>?_
 rw[bE]at hw;have hl:=dR l;have hsum:=fy l;refine af (C:=ctx) (Fn.of IL rfl) rfl ?_;unfold HD;repeat' (first|((with_reducible first|show aG _|show aM _);simp[vb]<;>omega)|exact(rfl:some _=_)|((fail_if_success refine aT ?_);refine aZ ?_;(repeat1' dsimp only[HD,aA,Tree.kind,Tree.steps,Tree.cell,Tree.pos,Tree.kids,aa,ah,go_sem]);first|refine aU ?_ ?_ rfl ?_|apply aV|apply aW|(refine aX (fun hc=>?_) fun hc=>?_<;>first|(cases hc;done)|(exfalso;simp at hc<;>omega)|(try simp only[bn]at hc;try contradiction))|skip))
 refine bg l.length (fun _=>True) (fun k=>[(1,.ptr 0 0 0),(3,.pv (.int .i64 (s.length+bj (l.take k):Nat))),(4,.pv (.int .i64 k))]) (fun _=>[ae (.node kd s c a l)]) trivial (by (repeat' (first|exact trivial|refine And.intro (by first|rfl|(simp[get,Nat.beq,bj]<;>omega)|(dsimp only[get];congr 1<;>first|rfl|omega|(simp<;>omega))) ?_))) ⟨[],rfl⟩ (fun _=>⟨Nat.zero_le _,rfl,rfl⟩) fun k hk _=>?_
 by_cases hlt:k<l.length
 ·have e:=cK l k hlt;have hle:=cL l;have hx:=ih _ (aO (d:=zt) hlt) (by have:=fw (aO (d:=zt) hlt);omega);have h1:=ik (l.take k) [l.getD k zt];rw[←aJ l k zt hlt,bj,bj]at h1;have h2:=fy (l.take (k+1));have h3:=nk l (k+1);rw[h1]at h2 ⊢;generalize l.getD k zt=x at *;generalize bU x=sx at *;obtain⟨k2,s2,c2,a2,l2⟩:=x;simp only[aA,Tree.kind,Tree.steps,Tree.cell,Tree.pos,Tree.kids]at e hx;repeat' (first|((with_reducible first|show aG _|show aM _);(try dsimp only[go_sem]);first|(simp[vb,e,hle,hlt,hx,h2,h3,aa,ah]<;>omega)|(simp only[vb,and_true,true_implies];(repeat' (first|(with_reducible assumption)|(with_reducible apply And.intro)|intro _|((fail_if_success (with_reducible show(_:Int)≤_));assumption)))<;>first|omega|(simp only[ab,e,hle,hlt,hx,h2,h3,aa,ah];done)|(simp[e,hle,hlt,hx,h2,h3,aa,ah]<;>omega)))|exact(rfl:some _=_)|((fail_if_success refine aT ?_);refine bX [(16,fun _=>some (.int .i64 sx))] [ξ 20 (.agg [.int .i64 k2,aa s2,.int .i64 c2,.int .i64 a2,ah l2])] ?_;(repeat1' dsimp only[HD,ae,Tree.kind,Tree.steps,Tree.cell,Tree.pos,Tree.kids,aa,ah,go_sem]);first|refine aU ?_ ?_ rfl ?_|apply aV|apply aW|(refine aX (fun hc=>?_) fun hc=>?_<;>first|(cases hc;done)|(exfalso;simp[e,hle,hlt,hx,h2,h3,aa,ah]at hc<;>omega)|(try simp only[bn]at hc;try contradiction))|skip))
  exact⟨hlt,trivial,by (repeat' (first|exact trivial|refine And.intro (by first|rfl|(simp[get,Nat.beq]<;>omega)|(dsimp only[get];congr 1<;>first|rfl|omega|(simp<;>omega))) ?_)),[],rfl⟩
 ·obtain rfl:k=l.length:=by omega
  rw[List.take_length];repeat' (first|((with_reducible first|show aG _|show aM _);simp[vb,hlt]<;>omega)|exact(rfl:some _=_)|((fail_if_success refine aT ?_);refine aZ ?_;(repeat1' dsimp only[HD,ae,Tree.kind,Tree.steps,Tree.cell,Tree.pos,Tree.kids,aa,ah,go_sem]);first|refine aU ?_ ?_ rfl ?_|apply aV|apply aW|(refine aX (fun hc=>?_) fun hc=>?_<;>first|(cases hc;done)|(exfalso;simp[hlt]at hc<;>omega)|(try simp only[bn]at hc;try contradiction))|skip))
  rw[fv]
def HE:ay:=(⟨_,by conv=>(lhs;reduce;try simp only[cJ,Int.cast_ofNat_Int,Int.reduceNegSucc,UInt8.reduceOfNat])⟩:{x // codeOf Tryz.prog 18 (fun _=>false)=some x}).1
theorem IM:bp Tryz.prog 18 (fun _=>false)=some (HE,[.t 2],22,true):=by kernel_rfl
theorem xe:∀(t:Tree),wt t≤1000000000→aj ctx 18 [aA t] (.int .i64 (db t)):=by
 refine Tree.ind fun kd s c a l ih hw=>?_
 rw[bE]at hw;have hl:=dR l;have hsum:=qC l;refine af (C:=ctx) (Fn.of IM rfl) rfl ?_;unfold HE;repeat' (first|((with_reducible first|show aG _|show aM _);simp[vb]<;>omega)|exact(rfl:some _=_)|((fail_if_success refine aT ?_);refine aZ ?_;(repeat1' dsimp only[HE,aA,Tree.kind,Tree.steps,Tree.cell,Tree.pos,Tree.kids,aa,ah,go_sem]);first|refine aU ?_ ?_ rfl ?_|apply aV|apply aW|(refine aX (fun hc=>?_) fun hc=>?_<;>first|(cases hc;done)|(exfalso;simp at hc<;>omega)|(try simp only[bn]at hc;try contradiction))|skip))
 refine bg l.length (fun _=>True) (fun k=>[(1,.ptr 0 0 0),(3,.pv (.int .i64 (bR (l.take k):Nat))),(4,.pv (.int .i64 k))]) (fun _=>[ae (.node kd s c a l)]) trivial (by (repeat' (first|exact trivial|refine And.intro (by first|rfl|(simp[get,Nat.beq,bR]<;>omega)|(dsimp only[get];congr 1<;>first|rfl|omega|(simp<;>omega))) ?_))) ⟨[],rfl⟩ (fun _=>⟨Nat.zero_le _,rfl,rfl⟩) fun k hk _=>?_
 by_cases hlt:k<l.length
 ·have e:=cK l k hlt;have hle:=cL l;have hx:=ih _ (aO (d:=zt) hlt) (by have:=fw (aO (d:=zt) hlt);omega);have h1:=nj (l.take k) [l.getD k zt];rw[←aJ l k zt hlt,bR,bR]at h1;rw[h1];generalize l.getD k zt=x at *;generalize db x=sx at *;obtain⟨k2,s2,c2,a2,l2⟩:=x;simp only[aA,Tree.kind,Tree.steps,Tree.cell,Tree.pos,Tree.kids]at e hx;repeat' (first|((with_reducible first|show aG _|show aM _);(try dsimp only[go_sem]);first|(simp[vb,e,hle,hlt,hx,aa,ah]<;>omega)|(simp only[vb,and_true,true_implies];(repeat' (first|(with_reducible assumption)|(with_reducible apply And.intro)|intro _|((fail_if_success (with_reducible show(_:Int)≤_));assumption)))<;>first|omega|(simp only[ab,e,hle,hlt,hx,aa,ah];done)|(simp[e,hle,hlt,hx,aa,ah]<;>omega)))|exact(rfl:some _=_)|((fail_if_success refine aT ?_);refine bX [(18,fun _=>some (.int .i64 sx))] [ξ 17 (.agg [.int .i64 k2,aa s2,.int .i64 c2,.int .i64 a2,ah l2])] ?_;(repeat1' dsimp only[HE,ae,Tree.kind,Tree.steps,Tree.cell,Tree.pos,Tree.kids,aa,ah,go_sem]);first|refine aU ?_ ?_ rfl ?_|apply aV|apply aW|(refine aX (fun hc=>?_) fun hc=>?_<;>first|(cases hc;done)|(exfalso;simp[e,hle,hlt,hx,aa,ah]at hc<;>omega)|(try simp only[bn]at hc;try contradiction))|skip))
  exact⟨hlt,trivial,by (repeat' (first|exact trivial|refine And.intro (by first|rfl|(simp[get,Nat.beq]<;>omega)|(dsimp only[get];congr 1<;>first|rfl|omega|(simp<;>omega))) ?_)),[],rfl⟩
 ·obtain rfl:k=l.length:=by omega
  rw[List.take_length];repeat' (first|((with_reducible first|show aG _|show aM _);simp[vb,hlt]<;>omega)|exact(rfl:some _=_)|((fail_if_success refine aT ?_);refine aZ ?_;(repeat1' dsimp only[HE,ae,Tree.kind,Tree.steps,Tree.cell,Tree.pos,Tree.kids,aa,ah,go_sem]);first|refine aU ?_ ?_ rfl ?_|apply aV|apply aW|(refine aX (fun hc=>?_) fun hc=>?_<;>first|(cases hc;done)|(exfalso;simp[hlt]at hc<;>omega)|(try simp only[bn]at hc;try contradiction))|skip))
  rw[jA,Int.natCast_add];rfl
def c40:ay:=(⟨_,by conv=>(lhs;reduce;try simp only[cJ,Int.cast_ofNat_Int,Int.reduceNegSucc,UInt8.reduceOfNat])⟩:{x // codeOf Tryz.prog 40 (fun _=>false)=some x}).1
theorem IN:bp Tryz.prog 40 (fun _=>false)=some (c40,[.t 2],25,true):=by kernel_rfl
theorem EL:∀(t:Tree),wt t≤1000000000→aj ctx 40 [aA t] (.int .i64 (wt t)):=by
 refine Tree.ind fun kd s c a l ih hw=>?_
 rw[bE]at hw;have hl:=dR l;refine af (C:=ctx) (Fn.of IN rfl) rfl ?_;unfold c40;repeat' (first|((with_reducible first|show aG _|show aM _);simp[vb]<;>omega)|exact(rfl:some _=_)|((fail_if_success refine aT ?_);refine aZ ?_;(repeat1' dsimp only[c40,aA,Tree.kind,Tree.steps,Tree.cell,Tree.pos,Tree.kids,aa,ah,go_sem]);first|refine aU ?_ ?_ rfl ?_|apply aV|apply aW|(refine aX (fun hc=>?_) fun hc=>?_<;>first|(cases hc;done)|(exfalso;simp at hc<;>omega)|(try simp only[bn]at hc;try contradiction))|skip))
 refine bg l.length (fun _=>True) (fun k=>[(1,.ptr 0 0 0),(3,.pv (.int .i64 (1+s.length+fg (l.take k):Nat))),(4,.pv (.int .i64 k))]) (fun _=>[ae (.node kd s c a l)]) trivial (by (repeat' (first|exact trivial|refine And.intro (by first|rfl|(simp[get,Nat.beq,fg]<;>omega)|(dsimp only[get];congr 1<;>first|rfl|omega|(simp<;>omega))) ?_))) ⟨[],rfl⟩ (fun _=>⟨Nat.zero_le _,rfl,rfl⟩) fun k hk _=>?_
 by_cases hlt:k<l.length
 ·have e:=cK l k hlt;have hle:=cL l;have hx:=ih _ (aO (d:=zt) hlt) (by have:=fw (aO (d:=zt) hlt);omega);have h1:=iP (l.take k) [l.getD k zt];rw[←aJ l k zt hlt,fg,fg]at h1;have h3:=nk l (k+1);rw[h1]at h3 ⊢;generalize l.getD k zt=x at *;generalize wt x=sx at *;obtain⟨k2,s2,c2,a2,l2⟩:=x;simp only[aA,Tree.kind,Tree.steps,Tree.cell,Tree.pos,Tree.kids]at e hx;repeat' (first|((with_reducible first|show aG _|show aM _);(try dsimp only[go_sem]);first|(simp[vb,e,hle,hlt,hx,h3,aa,ah]<;>omega)|(simp only[vb,and_true,true_implies];(repeat' (first|(with_reducible assumption)|(with_reducible apply And.intro)|intro _|((fail_if_success (with_reducible show(_:Int)≤_));assumption)))<;>first|omega|(simp only[ab,e,hle,hlt,hx,h3,aa,ah];done)|(simp[e,hle,hlt,hx,h3,aa,ah]<;>omega)))|exact(rfl:some _=_)|((fail_if_success refine aT ?_);refine bX [(40,fun _=>some (.int .i64 sx))] [ξ 21 (.agg [.int .i64 k2,aa s2,.int .i64 c2,.int .i64 a2,ah l2])] ?_;(repeat1' dsimp only[c40,ae,Tree.kind,Tree.steps,Tree.cell,Tree.pos,Tree.kids,aa,ah,go_sem]);first|refine aU ?_ ?_ rfl ?_|apply aV|apply aW|(refine aX (fun hc=>?_) fun hc=>?_<;>first|(cases hc;done)|(exfalso;simp[e,hle,hlt,hx,h3,aa,ah]at hc<;>omega)|(try simp only[bn]at hc;try contradiction))|skip))
  exact⟨hlt,trivial,by (repeat' (first|exact trivial|refine And.intro (by first|rfl|(simp[get,Nat.beq]<;>omega)|(dsimp only[get];congr 1<;>first|rfl|omega|(simp<;>omega))) ?_)),[],rfl⟩
 ·obtain rfl:k=l.length:=by omega
  rw[List.take_length];repeat' (first|((with_reducible first|show aG _|show aM _);simp[vb,hlt]<;>omega)|exact(rfl:some _=_)|((fail_if_success refine aT ?_);refine aZ ?_;(repeat1' dsimp only[c40,ae,Tree.kind,Tree.steps,Tree.cell,Tree.pos,Tree.kids,aa,ah,go_sem]);first|refine aU ?_ ?_ rfl ?_|apply aV|apply aW|(refine aX (fun hc=>?_) fun hc=>?_<;>first|(cases hc;done)|(exfalso;simp[hlt]at hc<;>omega)|(try simp only[bn]at hc;try contradiction))|skip))
  rw[bE]
def IP:ay:=(⟨_,by conv=>(lhs;reduce;try simp only[cJ,Int.cast_ofNat_Int,Int.reduceNegSucc,UInt8.reduceOfNat])⟩:{x // codeOf Tryz.prog 69 (fun _=>false)=some x}).1
theorem IQ:bp Tryz.prog 69 (fun _=>false)=some (IP,[.t 6],15,true):=by kernel_rfl
def aL (n lo hi:Int):Bool:=decide (lo≤n)&&decide (n≤hi)
theorem ly (n lo hi:Int):aj ctx 69 [.int .i64 n,.int .i64 lo,.int .i64 hi] (.bool (aL n lo hi)):=by
 refine af (C:=ctx) (Fn.of IQ rfl) rfl ?_;unfold IP;repeat' (first|((with_reducible first|show aG _|show aM _);simp[vb]<;>omega)|exact(rfl:some _=_)|((fail_if_success refine aT ?_);refine aZ ?_;(repeat1' dsimp only[IP,go_sem]);first|refine aU ?_ ?_ rfl ?_|apply aV|apply aW|(refine aX (fun hc=>?_) fun hc=>?_<;>first|(cases hc;done)|(exfalso;simp at hc<;>omega)|(try simp only[bn]at hc;try contradiction))|skip))
 rw[ie];rfl
end
section
open Rf
def HF:ay:=(⟨_,by conv=>(lhs;cbv;try simp only[cJ,Int.cast_ofNat_Int,Int.reduceNegSucc,UInt8.reduceOfNat])⟩:{x // codeOf Tryz.prog 44 (fun _=>false)=some x}).1
theorem IS:bp Tryz.prog 44 (fun _=>false)=some (HF,[.t 4],26,true):=by kernel_rfl
theorem yW (a b:List aS) (ha:a.length≤1000000000) (hb:b.length≤1000000000):aj ctx 44 [aa a,aa b] (.bool (decide (a=b))):=by
 generalize hr:decide (a=b)=r;have f1:=cR a;have f2:=cR b;refine af (C:=ctx) (Fn.of IS rfl) rfl ?_;unfold HF;repeat' (first|((with_reducible first|show aG _|show aM _);simp[vb]<;>omega)|exact(rfl:some _=_)|((fail_if_success refine aT ?_);refine aZ ?_;(repeat1' dsimp only[HF,aa,go_sem]);first|refine aU ?_ ?_ rfl ?_|apply aV|apply aW|(refine aX (fun hc=>?_) fun hc=>?_<;>first|(cases hc;done)|(exfalso;simp at hc<;>omega)|(try simp only[bn]at hc;try contradiction))|skip))
 ·rw[←hr];have:a≠b:=by rintro rfl;exact hc rfl
  simp[this]
 have hn:a.length=b.length:=by omega
 refine bg a.length (fun k=>a.take k=b.take k) (fun k=>[(0,.pv (aa a)),(1,.pv (aa b)),(5,.pv (.int .i64 k))]) (fun _=>[]) rfl (by (repeat' (first|exact trivial|refine And.intro (by first|rfl|(simp[get,Nat.beq]<;>omega)|(dsimp only[get];congr 1<;>first|rfl|omega|(simp<;>omega))) ?_))) ⟨[],rfl⟩ (fun k=>⟨Nat.zero_le _,rfl,rfl⟩) fun k hk hP=>?_
 by_cases hlt:k<a.length
 ·have s1:=aJ a k zs hlt;have s2:=aJ b k zs (by omega);have hne:a.getD k zs≠b.getD k zs→a≠b:=fun h1 h2=>h1 (by rw[h2])
  have e1:=bM bu a k zs hlt;have e2:=bM bu b k zs (by omega);generalize a.getD k zs=x at *;generalize b.getD k zs=y at *;repeat' (first|((with_reducible first|show aG _|show aM _);simp[vb,e1,e2,f1,f2,hlt,hn,aw]<;>omega)|exact(rfl:some _=_)|((fail_if_success refine aT ?_);refine br [ξ 20 (.agg [.int .i64 x.kind,.int .i64 x.index,.int .i64 x.cell]),ξ 24 (.agg [.int .i64 y.kind,.int .i64 y.index,.int .i64 y.cell])] ?_;(repeat1' dsimp only[HF,aa,go_sem]);first|refine aU ?_ ?_ rfl ?_|apply aV|apply aW|(refine aX (fun hc=>?_) fun hc=>?_<;>first|(cases hc;done)|(exfalso;simp[e1,e2,f1,f2,hlt,hn,aw]at hc<;>omega)|(try simp only[bn]at hc;try contradiction))|skip))
  ·rw[←hr];have:=hne (by rintro rfl;simp at hc);simp[this]
  ·refine⟨hlt,?_,by (repeat' (first|exact trivial|refine And.intro (by first|rfl|(simp[get,Nat.beq]<;>omega)|(dsimp only[get];congr 1<;>first|rfl|omega|(simp<;>omega))) ?_)),[],rfl⟩;rw[s1,s2,hP,show x=y from by cases x;cases y;simp_all]
 ·have hk2:k=a.length:=by omega
  subst hk2;rw[List.take_length,hn,List.take_length]at hP;repeat' (first|((with_reducible first|show aG _|show aM _);simp[vb,hlt]<;>omega)|exact(rfl:some _=_)|((fail_if_success refine aT ?_);refine aZ ?_;(repeat1' dsimp only[HF,aa,go_sem]);first|refine aU ?_ ?_ rfl ?_|apply aV|apply aW|(refine aX (fun hc=>?_) fun hc=>?_<;>first|(cases hc;done)|(exfalso;simp[hlt]at hc<;>omega)|(try simp only[bn]at hc;try contradiction))|skip))
  rw[←hr];simp[hP]
def c20:ay:=(⟨_,by conv=>(lhs;reduce;try simp only[cJ,Int.cast_ofNat_Int,Int.reduceNegSucc,UInt8.reduceOfNat])⟩:{x // codeOf Tryz.prog 20 (fun _=>false)=some x}).1
theorem IT:bp Tryz.prog 20 (fun _=>false)=some (c20,[.t 4],61,true):=by kernel_rfl
theorem Bn (p:Prop):∃q:Bool,q=true↔p:=by
 by_cases h:p
 ·exact⟨true,by simp[h]⟩
 ·exact⟨false,by simp[h]⟩
theorem EM:∀(t u:Tree),wt t≤1000000000→wt u≤1000000000→∀r:Bool,(r=true↔t=u)→aj ctx 20 [aA t,aA u] (.bool r):=by
 refine Tree.ind fun kd s c a l ih u hw hu r hr=>?_
 obtain⟨kd2,s2,c2,a2,l2⟩:=u;rw[bE]at hw hu;have hl:=dR l;have hl2:=dR l2;have hse:=yW s s2 (by omega) (by omega);generalize hq:decide (s=s2)=q at hse;refine af (C:=ctx) (Fn.of IT rfl) rfl ?_;unfold c20;repeat' (first|((with_reducible show aG _);first|exact True.intro|(simp only[vb,lb,hse,aa,ah];and_intros<;>first|omega|(simp<;>omega)))|((with_reducible show aM _);first|exact True.intro|((try dsimp only[go_sem]);(simp only[vb,and_true,true_implies];(repeat' (first|(with_reducible assumption)|(with_reducible apply And.intro)|intro _|((fail_if_success (with_reducible show(_:Int)≤_));assumption)))<;>first|omega|(simp only[ab,hse,aa,ah];done)|(simp_all;done))))|exact(rfl:some _=_)|((fail_if_success refine aT ?_);refine fu [(44,fun _=>some (.bool q))] ?_;(repeat1' dsimp only[c20,aA,ae,Tree.kind,Tree.steps,Tree.cell,Tree.pos,Tree.kids,aa,ah,go_sem]);first|refine aU ?_ ?_ rfl ?_|apply aV|apply aW|(refine aX (fun hc=>?_) fun hc=>?_<;>first|(cases hc;done)|(try simp only[bn]at hc;try contradiction))|skip))
 ·cases r with
  |false=>rfl
  |true =>
   exfalso;have h:=hr.mp rfl;injection h with h1 h2 h3 h4 h5
   subst h1 h2 h3 h4 h5;simp at hq;subst hq;simp at hc
 obtain⟨⟨⟨⟨rfl,rfl⟩,rfl⟩,hqt⟩,hn⟩:=hc;have hn:l.length=l2.length:=by omega
 rw[hqt]at hq;obtain rfl:=of_decide_eq_true hq;refine bg l.length (fun k=>l.take k=l2.take k) (fun k=>[(2,.ptr 0 0 0),(3,.ptr 1 0 0),(5,.pv (.int .i64 k))]) (fun _=>[ae (.node kd s c a l),ae (.node kd s c a l2)]) rfl (by (repeat' (first|exact trivial|refine And.intro (by first|rfl|(simp[get,Nat.beq]<;>omega)|(dsimp only[get];congr 1<;>first|rfl|omega|(simp<;>omega))) ?_))) ⟨[],rfl⟩ (fun k=>⟨Nat.zero_le _,rfl,rfl⟩) fun k hk hP=>?_
 by_cases hlt:k<l.length
 ·have s1:=aJ l k zt hlt;have s2:=aJ l2 k zt (by omega);have hne:l.getD k zt≠l2.getD k zt→l≠l2:=fun h1 h2=>h1 (by rw[h2])
  have e1:=cK l k hlt;have e2:=cK l2 k (by omega);have g1:=cL l;have g2:=cL l2;obtain⟨q2,hq2⟩:=Bn (l.getD k zt=l2.getD k zt);have hx:=ih _ (aO (d:=zt) hlt) (l2.getD k zt) (by have:=fw (aO (d:=zt) hlt);omega) (by have:=fw (aO (l:=l2) (d:=zt) (k:=k) (by omega));omega) q2 hq2;generalize l.getD k zt=x at *;generalize l2.getD k zt=y at *;obtain⟨xk,xs,xc,xa,xl⟩:=x;obtain⟨yk,ys,yc,ya,yl⟩:=y;simp only[aA,Tree.kind,Tree.steps,Tree.cell,Tree.pos,Tree.kids]at e1 e2 hx;repeat' (first|((with_reducible first|show aG _|show aM _);(try dsimp only[go_sem]);first|(simp[vb,e1,e2,g1,g2,hlt,hn,hx,aa,ah]<;>omega)|(simp only[vb,and_true,true_implies];(repeat' (first|(with_reducible assumption)|(with_reducible apply And.intro)|intro _|((fail_if_success (with_reducible show(_:Int)≤_));assumption)))<;>first|omega|(simp only[ab,e1,e2,g1,g2,hlt,hn,hx,aa,ah];done)|(simp[e1,e2,g1,g2,hlt,hn,hx,aa,ah]<;>omega)))|exact(rfl:some _=_)|((fail_if_success refine aT ?_);refine bX [(20,fun _=>some (.bool q2))] [ξ 53 (.agg [.int .i64 xk,aa xs,.int .i64 xc,.int .i64 xa,ah xl]),ξ 58 (.agg [.int .i64 yk,aa ys,.int .i64 yc,.int .i64 ya,ah yl])] ?_;(repeat1' dsimp only[c20,ae,Tree.kind,Tree.steps,Tree.cell,Tree.pos,Tree.kids,aa,ah,go_sem]);first|refine aU ?_ ?_ rfl ?_|apply aV|apply aW|(refine aX (fun hc=>?_) fun hc=>?_<;>first|(cases hc;done)|(exfalso;simp[e1,e2,g1,g2,hlt,hn,hx,aa,ah]at hc<;>omega)|(try simp only[bn]at hc;try contradiction))|skip))
  ·subst hc;have hxy:=hne fun h=>by have:=hq2.mpr h;cases this
   cases r with
   |false=>rfl
   |true =>
    have h:=hr.mp rfl;injection h with h1 h2 h3 h4 h5
    exact absurd h5 hxy
  ·refine⟨hlt,?_,by (repeat' (first|exact trivial|refine And.intro (by first|rfl|(simp[get,Nat.beq]<;>omega)|(dsimp only[get];congr 1<;>first|rfl|omega|(simp<;>omega))) ?_)),[],rfl⟩;rw[s1,s2,hP,hq2.mp hc]
 ·have hk2:k=l.length:=by omega
  subst hk2;rw[List.take_length,hn,List.take_length]at hP;repeat' (first|((with_reducible first|show aG _|show aM _);simp[vb,hlt]<;>omega)|exact(rfl:some _=_)|((fail_if_success refine aT ?_);refine aZ ?_;(repeat1' dsimp only[c20,ae,Tree.kind,Tree.steps,Tree.cell,Tree.pos,Tree.kids,aa,ah,go_sem]);first|refine aU ?_ ?_ rfl ?_|apply aV|apply aW|(refine aX (fun hc=>?_) fun hc=>?_<;>first|(cases hc;done)|(exfalso;simp[hlt]at hc<;>omega)|(try simp only[bn]at hc;try contradiction))|skip))
  subst hP;rw[hr.mpr rfl]
end
section
def c87:ay:=(⟨_,by conv=>(lhs;reduce;try simp only[cJ,Int.cast_ofNat_Int,Int.reduceNegSucc,UInt8.reduceOfNat])⟩:{x // codeOf Tryz.prog 87 (fun _=>false)=some x}).1
theorem HG:bp Tryz.prog 87 (fun _=>false)=some (c87,[],6,true):=by kernel_rfl
def cw:List PanicEntry:=[{v:=.iface 84 (.agg #[]),recovered:=false}]
theorem Ad:aj ctx 87 [.bool true] (.tup []):=by
 refine af (C:=ctx) (Fn.of HG rfl) rfl ?_;unfold c87;repeat' (first|((with_reducible first|show aG _|show aM _);simp[vb]<;>omega)|exact(rfl:some _=_)|((fail_if_success refine aT ?_);refine aZ ?_;(repeat1' dsimp only[c87,go_sem]);first|refine aU ?_ ?_ rfl ?_|apply aV|apply aW|(refine aX (fun hc=>?_) fun hc=>?_<;>first|(cases hc;done)|(exfalso;simp at hc<;>omega)|(try simp only[bn]at hc;try contradiction))|skip))
theorem sB (μ:AM) (hμ:aP μ μ.length=true):eQ ctx 87 [.pv (.bool false)] μ cw (fun μ'=>μ'=μ):=by
 refine nc (C:=ctx) (Fn.of HG rfl) rfl ?_;unfold c87;refine aZ ?_;simp only[aB,aq,ar,au,az,mem_set,aH,go_sem];try simp only[aB,aq,ar,au,az,mem_set,aH,go_sem]
 refine⟨(by simp[vb]<;>omega),(by simp[vb]<;>omega),?_⟩;refine aZ ?_;simp only[aB,aq,ar,au,az,mem_set,aH,go_sem];refine⟨fun _=>?_,fun h=>by simp at h<;>omega⟩;refine fT 2 true [] ?_;simp only[iF,List.take_succ_cons,List.take_zero,List.getElem?_cons_succ,List.getElem?_cons_zero,go_sem,jz];exact⟨by simp[aG],trivial,rfl,μ,[],(List.append_nil _).symm,Nat.le_refl _,hμ,rfl⟩
end
section
def dq (l:List (List UInt8)):PV:=.sl l.length (l.map .str)
end
section
open Rf
structure GJ (σ:Type) where
 E:σ→World→Prop
 hE:∀k (w w':World),E k w→Below w.heap.size w w'→E k w'
 Fo:Nat→Prop
noncomputable def x6 {σ:Type} (X:GJ σ):yN σ:=⟨Tryz.prog,by kernel_rfl,[],X.E,X.hE,X.Fo⟩
mutual
def qO {σ:Type} (st:σ→Int→Tree→Bool×σ) (k:σ) (lev:Int):Tree→Bool×σ
 | .node kd s c a l=>match st k lev (.node kd s c a l) with
  |(false,k1)=>(false,k1)
  |(true,k1)=>il st k1 (lev+1) l
def il {σ:Type} (st:σ→Int→Tree→Bool×σ) (k:σ) (lev:Int):List Tree→Bool×σ
 |[]=>(true,k)
 |t::r=>match qO st k lev t with
  |(false,k1)=>(false,k1)
  |(true,k1)=>il st k1 lev r
end
mutual
theorem FU {σ:Type} {st:σ→Int→Tree→Bool×σ} {G:σ→Prop} (hG:∀k lev t,G k→(st k lev t).1=true→G (st k lev t).2):∀(t:Tree) (k:σ) (lev:Int),G k→(qO st k lev t).1=true→G (qO st k lev t).2
 | .node kd s c a l,k,lev,hk,h=>by
  have h1:=hG k lev (.node kd s c a l) hk;rw[qO]at h ⊢;generalize st k lev (.node kd s c a l)=q at *;obtain⟨b,k1⟩:=q;cases b with
  |false=>cases h
  |true=>exact C6 hG l k1 (lev+1) (h1 rfl) h
theorem C6 {σ:Type} {st:σ→Int→Tree→Bool×σ} {G:σ→Prop} (hG:∀k lev t,G k→(st k lev t).1=true→G (st k lev t).2):∀(l:List Tree) (k:σ) (lev:Int),G k→(il st k lev l).1=true→G (il st k lev l).2
 |[],k,lev,hk,h=>by rw[il];exact hk
 |t::r,k,lev,hk,h=>by
  have h1:=FU hG t k lev hk;rw[il]at h ⊢;generalize qO st k lev t=q at *;obtain⟨b,k1⟩:=q;cases b with
  |false=>cases h
  |true=>exact C6 hG r k1 lev (h1 rfl) h
end
def HH:ay:=(⟨_,by conv=>(lhs;reduce;try simp only[cJ,Int.cast_ofNat_Int,Int.reduceNegSucc,UInt8.reduceOfNat])⟩:{x // codeOf Tryz.prog 68 (fun _=>false)=some x}).1
theorem IU:bp Tryz.prog 68 (fun _=>false)=some (HH,[.t 6],28,true):=by kernel_rfl
theorem j8 {μ:AM} {b:Nat} {k:dT} (h:μ[b]?=some k) (x:dT):(μ++[x])[b]?=some k:=by
 have:=(List.getElem?_eq_some_iff.mp h).1;rw[List.getElem?_append_left this];exact h
theorem Bo:∀(d:Nat) (v:AV) (m m':Nat),m≤m'→ck d m v=true→ck d m' v=true:=by
 intro d;induction d with
 |zero =>
  intro v m m' hmm h;cases v<;>simp only[ck]at h ⊢<;>first|exact h|(have:=Nat.blt_eq.mp h;exact Nat.blt_eq.mpr (by omega))
 |succ d ih =>
  intro v m m' hmm h;cases v<;>simp only[ck]at h ⊢<;>first
   |exact h
   |(have:=Nat.blt_eq.mp h;exact Nat.blt_eq.mpr (by omega))
   |(rw[List.all_eq_true]at h ⊢;exact fun x hx=>ih x m m' hmm (h x hx))
   |exact ih _ m m' hmm h
theorem yX {μ:AM} {k:dT} (h:aP μ μ.length=true) (hk:k.cells.all (ck 3 (μ.length+1))=true):aP (μ++[k]) (μ++[k]).length=true:=by
 unfold aP at h ⊢;rw[List.all_eq_true]at h ⊢;intro q hq;rw[List.length_append,List.length_singleton];rcases List.mem_append.mp hq with hq|hq
 ·have:=h q hq;rw[List.all_eq_true]at this ⊢;exact fun v hv=>Bo 3 v _ _ (by omega) (this v hv)
 ·rw[List.mem_singleton.mp hq];exact hk
theorem oD {μ:AM} (h:aP μ μ.length=true) (t:Tree):aP (μ++[ae t]) (μ++[ae t]).length=true :=
 yX h rfl
theorem xf {σ:Type} {F:yN σ} {own:Nat→Bool} {n m:Nat} {R:σ→Exit→AF→AM→Prop} {k:σ} {f:AF} {μ:AM} (h:R k .normal f μ):xZ F own n m .skip R k f μ:=dC (aZ h)
theorem C7 {σ:Type} {F:yN σ} {own:Nat→Bool} {n m id:Nat} {R:σ→Exit→AF→AM→Prop} {k:σ} {f:AF} {μ:AM} (h:R k (.exit id) f μ):xZ F own n m (.exit id) R k f μ:=dC (uX h)
variable {σ:Type} {X:GJ σ}
theorem C8 (l b1 b2:Nat) (e1 e2:TypeId) (st:σ→Int→Tree→Bool×σ) (G:σ→Prop) (hG:∀k lev t,G k→(st k lev t).1=true→G (st k lev t).2)
  (hY:∀(k:σ) (lev:Int) (t:Tree) (μ:AM),G k→aP μ μ.length=true→wt t≤1000000000→ -1000000000≤lev→lev≤3000000000→Bc (x6 X) l [.pv (.int .i64 lev),.pv (aA t)] k μ (.pv (.bool (st k lev t).1)) (st k lev t).2 μ) :
  ∀(t:Tree),wt t≤1000000000→∀(k:σ) (lev:Int) (μ:AM),G k→aP μ μ.length=true→ -1000000000≤lev→lev+wt t≤2000000000 →
   μ[b1]?=some ⟨[.pv (.val (.func (.yield l) #[] #[]))],0,1,e1,false⟩→μ[b2]?=some ⟨[.fn 68 [.ptr b1 0 0,.ptr b2 0 0]],0,1,e2,false⟩ →
   Hv (x6 X) 68 [.pv (.int .i64 lev),.pv (aA t),.ptr b1 0 0,.ptr b2 0 0] k μ (.pv (.bool (qO st k lev t).1)) (qO st k lev t).2 μ:=by
 refine Tree.ind fun kd s c a ks ih hw k lev μ hk hμ hl0 hl1 h1 h2=>?_
 refine CK (F:=x6 X) (k:=k) (Fn.of (C:=(x6 X).C k) IU rfl) rfl (Nat.le_refl _) rfl hμ ?_;unfold HH;refine eN (dC ?_);refine aZ ?_;simp only[dw,aA,Tree.kind,Tree.steps,Tree.cell,Tree.pos,Tree.kids,aB,aq,ar,au,az,mem_set,aH,go_sem];try simp only[dw,aA,Tree.kind,Tree.steps,Tree.cell,Tree.pos,Tree.kids,aB,aq,ar,au,az,mem_set,aH,go_sem]
 refine⟨(by simp[vb]<;>omega),(by simp[vb]<;>omega),?_⟩;refine eN (eN ?_);refine vn 3 [] [] ?_;simp only[wQ,List.take_succ_cons,List.take_zero,List.drop_succ_cons,List.drop_zero,List.getElem?_cons_succ,List.getElem?_cons_zero,go_sem,az,j8 h1,j8 h2,jz,dw];have hT:=oD hμ (.node kd s c a ks);refine⟨by simp[aG],trivial,trivial,.pv (.bool (st k lev (.node kd s c a ks)).1),(st k lev (.node kd s c a ks)).2,μ++[ae (.node kd s c a ks)],.inr ⟨.t 9,[.t 10,.t 11],l,rfl,rfl,hY k lev _ _ hk hT hw (by omega) (by omega)⟩,?_⟩
 have hvis:qO st k lev (.node kd s c a ks)=match st k lev (.node kd s c a ks) with
  |(false,k1)=>(false,k1)
  |(true,k1)=>il st k1 (lev+1) ks:=by rw[qO]
 rw[hvis];have hk1:=hG k lev (.node kd s c a ks) hk;generalize st k lev (.node kd s c a ks)=q at *;obtain⟨b,k1⟩:=q;simp only[go_sem,dw];cases b with
 |false =>
  refine⟨by simp[aG],trivial,?_⟩;refine lv (t:=true) rfl ?_;rw[cond_true];refine dC ?_;repeat' (first|((with_reducible first|show aG _|show aM _);simp[vb]<;>omega)|exact(rfl:some _=_)|((fail_if_success refine aT ?_);refine aZ ?_;(repeat1' dsimp only[HH,dw,CJ,go_sem]);first|refine aU ?_ ?_ rfl ?_|apply aV|apply aW|(refine aX (fun hc=>?_) fun hc=>?_<;>first|(cases hc;done)|(exfalso;simp at hc<;>omega)|(try simp only[bn]at hc;try contradiction))|skip))
  exact⟨rfl,[],_,rfl,trivial,rfl⟩
 |true =>
  refine⟨by simp[aG],trivial,?_⟩;refine lv (t:=false) rfl ?_;rw[cond_false];refine dC ?_;refine aZ ?_;simp only[go_sem,dw];refine eN (eN (dC ?_));refine aZ ?_;simp only[dw,ae,Tree.kind,Tree.steps,Tree.cell,Tree.pos,Tree.kids,ah,aB,aq,ar,au,az,mem_set,aH,go_sem];try simp only[dw,ae,Tree.kind,Tree.steps,Tree.cell,Tree.pos,Tree.kids,ah,aB,aq,ar,au,az,mem_set,aH,go_sem]
  refine⟨(by simp[vb]<;>omega),(by simp[vb]<;>omega),?_⟩;generalize hr:il st k1 (lev+1) ks=r;rw[bE]at hw hl1;refine ud ?_
  refine CF (fun j k' f' μ'=>∃i,i≤ks.length∧j=ks.length-i∧il st k' (lev+1) (ks.drop i)=r∧Sub [(0,.pv (.int .i64 lev)),(3,.ptr b2 0 0),(15,.pv (.sl ks.length (ks.flatMap cy))),(16,.pv (.int .i64 ks.length)),(17,.pv (.int .i64 i))] f'∧∃junk,μ'=μ++junk∧aP (μ++junk) (μ++junk).length=true∧G k') ?_ ks.length ⟨0,Nat.zero_le _,rfl,by rw[List.drop_zero];exact hr,by (repeat' (first|exact trivial|refine And.intro (by first|rfl|(simp[get,Nat.beq]<;>omega)|(dsimp only[get];congr 1<;>first|rfl|omega|(simp<;>omega))) ?_)),_,rfl,hT,hk1 rfl⟩
  rintro j k' f' μ' ⟨i,hi,rfl,hv,hf,junk,rfl,hok,hkk⟩;refine Bb _ hf ?_;clear hf f';have g1:(μ++junk)[b1]?=some ⟨[.pv (.val (.func (.yield l) #[] #[]))],0,1,e1,false⟩:=by rw[List.getElem?_append_left (List.getElem?_eq_some_iff.mp h1).1];exact h1
  have g2:(μ++junk)[b2]?=some ⟨[.fn 68 [.ptr b1 0 0,.ptr b2 0 0]],0,1,e2,false⟩:=by rw[List.getElem?_append_left (List.getElem?_eq_some_iff.mp h2).1];exact h2
  by_cases hlt:i<ks.length
  ·have e:=cK ks i hlt;have hle:=cL ks;have hkl:=dR ks;have hwx:=fw (aO (d:=zt) hlt);have hd:ks.drop i=ks.getD i zt::ks.drop (i+1):=by rw[List.drop_eq_getElem_cons hlt,List.getD,List.getElem?_eq_getElem hlt];rfl
   rw[hd,il]at hv;have hx:=ih _ (aO (d:=zt) hlt) (by omega) k' (lev+1);generalize ks.getD i zt=x at *;have hT2:=oD hok x;have hx:=hx _ hkk hT2 (by omega) (by omega) (j8 g1 _) (j8 g2 _);obtain⟨xk,xs,xc,xa,xl⟩:=x;simp only[Tree.kind,Tree.steps,Tree.cell,Tree.pos,Tree.kids]at e;simp only[aA,ae,Tree.kind,Tree.steps,Tree.cell,Tree.pos,Tree.kids]at hx hT2;refine eN (dC ?_);refine aZ ?_;simp only[dw,aB,aq,ar,au,az,mem_set,aH,go_sem]
   try simp only[dw,aB,aq,ar,au,az,mem_set,aH,go_sem]
   refine⟨(by simp[vb,hlt]<;>omega),(by simp[vb,hlt]<;>omega),?_⟩;refine eN (lv (t:=decide ((i:Int)<ks.length)) rfl ?_);rw[decide_eq_true (by omega:(i:Int)<ks.length),cond_true];refine xf ?_;refine eN (ud ?_);refine eN (dC ?_);refine br [ξ 20 (.agg [.int .i64 xk,aa xs,.int .i64 xc,.int .i64 xa,ah xl])] ?_;simp only[dw,aB,aq,ar,au,az,mem_set,aH,go_sem];try simp only[dw,aB,aq,ar,au,az,mem_set,aH,go_sem]
   refine⟨(by simp[vb,e,hle,hlt]<;>omega),(by simp[vb,e,hle,hlt]<;>omega),?_⟩;refine eN ?_;refine vn 4 [] [] ?_;simp only[wQ,List.take_succ_cons,List.take_zero,List.drop_succ_cons,List.drop_zero,List.getElem?_cons_succ,List.getElem?_cons_zero,go_sem,az,jz,dw,j8 g1,j8 g2];refine⟨by simp[aG,lI,fX];omega,trivial,trivial,_,_,_,.inl ⟨_,_,rfl,hx⟩,?_⟩;clear hx;have hk2:=FU hG (.node xk xs xc xa xl) k' (lev+1) hkk;generalize qO st k' (lev+1) (.node xk xs xc xa xl)=q at *;obtain⟨b,k2⟩:=q;simp only[go_sem,dw];cases b with
   |false =>
    refine⟨by simp[aG],trivial,?_⟩;refine lv (t:=true) rfl ?_;rw[cond_true];refine dC ?_;subst hv;repeat' (first|((with_reducible first|show aG _|show aM _);simp[vb]<;>omega)|exact(rfl:some _=_)|((fail_if_success refine aT ?_);refine aZ ?_;(repeat1' dsimp only[HH,dw,nd,CJ,go_sem]);first|refine aU ?_ ?_ rfl ?_|apply aV|apply aW|(refine aX (fun hc=>?_) fun hc=>?_<;>first|(cases hc;done)|(exfalso;simp at hc<;>omega)|(try simp only[bn]at hc;try contradiction))|skip))
    exact⟨rfl,[],_,rfl,trivial,by rw[List.append_assoc]⟩
   |true =>
    refine⟨by simp[aG],trivial,?_⟩;refine lv (t:=false) rfl ?_;rw[cond_false];refine xf ?_;simp only[dw,nd];refine dC ?_;refine aZ ?_;simp only[dw,nd,aB,aq,ar,au,az,mem_set,aH,go_sem];try simp only[dw,nd,aB,aq,ar,au,az,mem_set,aH,go_sem]
    refine⟨(by simp[vb,hlt]<;>omega),(by simp[vb,hlt]<;>omega),?_⟩;exact⟨_,by omega,i+1,by omega,rfl,hv,by (repeat' (first|exact trivial|refine And.intro (by first|rfl|(simp[get,Nat.beq]<;>omega)|(dsimp only[get];congr 1<;>first|rfl|omega|(simp<;>omega))) ?_)),_,by rw[List.append_assoc],by rw[←List.append_assoc];exact hT2,hk2 rfl⟩
  ·obtain rfl:i=ks.length:=by omega
   refine eN (dC ?_);refine aZ ?_;simp only[dw,aB,aq,ar,au,az,mem_set,aH,go_sem];try simp only[dw,aB,aq,ar,au,az,mem_set,aH,go_sem]
   refine⟨(by simp[vb,hlt]<;>omega),(by simp[vb,hlt]<;>omega),?_⟩;refine eN (lv (t:=decide ((ks.length:Int)<ks.length)) rfl ?_);rw[decide_eq_false (by omega:¬(ks.length:Int)<ks.length),cond_false];refine C7 ?_;simp only[dw,nd,Nat.beq_refl,cond_true];refine dC ?_;rw[List.drop_length,il]at hv;subst hv;repeat' (first|((with_reducible first|show aG _|show aM _);simp[vb]<;>omega)|exact(rfl:some _=_)|((fail_if_success refine aT ?_);refine aZ ?_;(repeat1' dsimp only[HH,dw,nd,CJ,go_sem]);first|refine aU ?_ ?_ rfl ?_|apply aV|apply aW|(refine aX (fun hc=>?_) fun hc=>?_<;>first|(cases hc;done)|(exfalso;simp at hc<;>omega)|(try simp only[bn]at hc;try contradiction))|skip))
   exact⟨rfl,[],_,rfl,trivial,rfl⟩
end
section
open Rf
def JA:ay:=(⟨_,by conv=>(lhs;reduce;try simp only[cJ,Int.cast_ofNat_Int,Int.reduceNegSucc,UInt8.reduceOfNat])⟩:{x // codeOf Tryz.prog 67 (fun _=>false)=some x}).1
theorem IV:bp Tryz.prog 67 (fun _=>false)=some (JA,[],8,true):=by kernel_rfl
def IW:ay:=(⟨_,by conv=>(lhs;reduce;try simp only[cJ,Int.cast_ofNat_Int,Int.reduceNegSucc,UInt8.reduceOfNat])⟩:{x // codeOf Tryz.prog 38 (fun _=>false)=some x}).1
theorem IX:bp Tryz.prog 38 (fun _=>false)=some (IW,[.t 2],4,true):=by kernel_rfl
theorem sC (t:Tree) (μ:AM) (hμ:aP μ μ.length=true):aN ctx 38 [.pv (aA t)] μ (.fn 67 [.ptr μ.length 0 0]) (μ++[ae t]):=by
 refine bo (C:=ctx) (Fn.of IX rfl) rfl (by simp) (by simp[ck,Nat.blt]) (oD hμ t) ?_;unfold IW;refine aZ ?_;simp only[aA,ae,aB,aq,ar,au,az,mem_set,aH,go_sem];try simp only[aA,ae,aB,aq,ar,au,az,mem_set,aH,go_sem]
 refine⟨(by simp[vb]<;>omega),(by simp[vb]<;>omega),?_⟩;refine aZ ?_;simp only[aA,ae,aB,aq,ar,au,az,mem_set,aH,go_sem];try simp only[aA,ae,aB,aq,ar,au,az,mem_set,aH,go_sem]
 refine⟨(by simp[vb]<;>omega),(by simp[vb]<;>omega),?_⟩;repeat' (first|((with_reducible first|show aG _|show aM _);simp[vb]<;>omega)|exact(rfl:some _=_)|((fail_if_success refine aT ?_);refine aZ ?_;(repeat1' dsimp only[IW,go_sem]);first|refine aU ?_ ?_ rfl ?_|apply aV|apply aW|(refine aX (fun hc=>?_) fun hc=>?_<;>first|(cases hc;done)|(exfalso;simp at hc<;>omega)|(try simp only[bn]at hc;try contradiction))|skip))
 exact⟨⟨trivial,rfl⟩,[],(List.append_nil _).symm⟩
variable {σ:Type} {X:GJ σ}
theorem p7 (l:Nat) (st:σ→Int→Tree→Bool×σ) (G:σ→Prop) (hG:∀k lev t,G k→(st k lev t).1=true→G (st k lev t).2)
  (hY:∀(k:σ) (lev:Int) (t:Tree) (μ:AM),G k→aP μ μ.length=true→wt t≤1000000000→ -1000000000≤lev→lev≤3000000000→Bc (x6 X) l [.pv (.int .i64 lev),.pv (aA t)] k μ (.pv (.bool (st k lev t).1)) (st k lev t).2 μ)
  (t:Tree) (hw:wt t≤1000000000) (k:σ) (hk:G k) :
  Hv (x6 X) 67 [.pv (.val (.func (.yield l) #[] #[])),.iptr [.int .i64 t.kind,aa t.steps,.int .i64 t.cell,.int .i64 t.pos,ah t.kids] 0] k [] (.pv (.tup [])) (qO st k 1 t).2 []:=by
 refine CK (F:=x6 X) (k:=k) (Fn.of (C:=(x6 X).C k) IV rfl) rfl (Nat.le_refl _) rfl rfl ?_;unfold JA;refine eN (dC ?_);refine aZ ?_;dsimp only[dw,go_sem];try dsimp only[dw,go_sem]
 refine⟨(by simp[vb]<;>omega),(by simp[vb]<;>omega),?_⟩;refine eN (dC ?_);refine aZ ?_;dsimp only[dw,go_sem];try dsimp only[dw,go_sem]
 refine⟨(by simp[vb]<;>omega),(by simp[vb]<;>omega),?_⟩;refine eN (dC ?_);refine aZ ?_;dsimp only[dw,go_sem];try dsimp only[dw,go_sem]
 refine⟨(by simp[vb]<;>omega),(by simp[vb]<;>omega),?_⟩;refine vn 2 [] [] ?_;simp only[wQ,List.take_succ_cons,List.take_zero,List.drop_succ_cons,List.drop_zero,List.getElem?_cons_succ,List.getElem?_cons_zero,go_sem,jz,dw];refine⟨by simp[aG],trivial,trivial,_,_,_,.inl ⟨_,_,rfl,C8 l 0 1 _ _ st G hG hY t hw k 1 _ hk rfl (by omega) (by omega) rfl rfl⟩,?_⟩;generalize qO st k 1 t=q;obtain⟨b,k2⟩:=q;simp only[go_sem,dw,CJ];refine⟨by simp[aG],trivial,?_⟩;exact⟨trivial,[],_,rfl,trivial,rfl⟩
end
section
open Rf
def IY:ay:=(⟨_,by conv=>(lhs;reduce;try simp only[cJ,Int.cast_ofNat_Int,Int.reduceNegSucc,UInt8.reduceOfNat])⟩:{x // codeOf Tryz.prog 15 (fun _=>false)=some x}).1
theorem IZ:bp Tryz.prog 15 (fun _=>false)=some (IY,[.t 2],16,true):=by kernel_rfl
def I0:ay:=(⟨_,by conv=>(lhs;reduce;try simp only[cJ,Int.cast_ofNat_Int,Int.reduceNegSucc,UInt8.reduceOfNat])⟩:{x // codeOf Tryz.prog 17 (fun _=>false)=some x}).1
theorem I1:bp Tryz.prog 17 (fun _=>false)=some (I0,[.t 2],13,true):=by kernel_rfl
def I2:ay:=(⟨_,by conv=>(lhs;reduce;try simp only[cJ,Int.cast_ofNat_Int,Int.reduceNegSucc,UInt8.reduceOfNat])⟩:{x // codeOf Tryz.prog 13 (fun _=>false)=some x}).1
theorem I3:bp Tryz.prog 13 (fun _=>false)=some (I2,[.cell 2 1 false],27,true):=by kernel_rfl
end
section
open Go.Shelf
theorem C9 {P:Program} {T:TypeId} {c:Nat} (hd:P.depth≠0) (hc:P.cellsOf T=2) (h:2≤c):liesAt P P.depth T (c / P.cellsOf T) 0 T 1=true:=by
 obtain⟨d,hd⟩:=Nat.exists_eq_succ_of_ne_zero hd;have h1:sameLayout P P.depth T T=true:=by rw[hd];simp[sameLayout]
 have h2:rowAt P (sameLayout P P.depth · T) P.depth T (c / P.cellsOf T) 0 1=true:=by
  rw[hc];have:1≤c / 2:=by omega
  rw[hd]at h1 ⊢;simp[rowAt,hc,this,h1]
 rw[hd]at h2 ⊢;simp only[liesAt];rw[hd];simp[h2]
set_option maxRecDepth 100000 in
theorem qP {P:Program} {ρ:Ren} (L:Go.Proofs.Lays.n240 P ρ) (X:Builder.X72 P ρ) (hd:P.depth≠0) (hc2:P.cellsOf (ρ.t 72)=2) (b c:Nat) (hc:2≤c) (w:World) (h0:w.cell? ⟨b,0,none⟩=some (.pointer none)) (hsh:w.shape? b=some ((ρ.t 72),c)) (hfz:w.frozen? ⟨b,0,none⟩=false) :
  Calls P (ρ.f 240) #[.pointer (some ⟨b,0,none⟩)] w fun e w'=>e= .returned (.tuple #[])∧w'=w.setCell ⟨b,0,none⟩ (.pointer (some ⟨b,0,none⟩)):=by
 obtain⟨j,hj,hjs⟩:=Option.map_eq_some_iff.1 X.sizeBuilder;have mixed:=L.mixed;have t72:=L.t72;have a72:=L.a72;have z72:=L.z72;have v72:=L.v72;have u72:=run_underlying L.t72;have t70:=L.t70;have a70:=L.a70;have z70:=L.z70;have v70:=L.v70;have u70:=run_underlying L.t70;have t9:=L.t9;have a9:=L.a9;have z9:=L.z9;have v9:=L.v9;have u9:=run_underlying L.t9;have t4:=L.t4;have a4:=L.a4;have z4:=L.z4;have v4:=L.v4;have u4:=run_underlying L.t4;have t164:=L.t164;have a164:=L.a164;have z164:=L.z164;have v164:=L.v164;have u164:=run_underlying L.t164;go_enter L.f240,Go.Proofs.Body.n240_ntmps ρ
 go_wp2
 rw[Lib.run_to_unsafe w ⟨b,0,none⟩ L.t70 L.t164 hj (by rw[hjs];decide) hsh (Nat.lt_of_lt_of_le Nat.zero_lt_two hc)];simp only[Result.andThen];rw[Oper.upon_value];go_wp2
 rw[run_callFunc_extern L.f276 (by kernel_rfl) (by kernel_rfl) (by kernel_rfl) (e:=Extern.AbiNoEscape.same) (by kernel_rfl)];rw[Lib.run_noEscape];simp only[Result.andThen];rw[Oper.upon_value];go_wp2
 rw[Lib.run_from_unsafe w ⟨b,0,none⟩ L.t164 L.t70 hj hsh (C9 hd hc2 hc)];simp only[Result.andThen];rw[Oper.upon_value];go_wp2
 go_end0
 exact⟨rfl,rfl⟩
theorem yY {α β:Type} {R:α→β→Prop} {a:α} {m:List β} (h:PW R [a] m):∃b,m=[b]∧R a b:=by
 obtain⟨hl,hat⟩:=h;match m,hl with
 |[b],_=>exact⟨b,rfl,hat 0 a b rfl rfl⟩
def cx (x y:AV) (g:Nat):dT:=⟨[x,y],g,2,78,false⟩
theorem qQ {μ:AM} {b g:Nat} {y:AV} (hk:μ[b]?=some (cx (.pv (.val (.pointer none))) y g)):aN ctx 111 [.ptr b g 0] μ (.pv (.tup [])) (μ.set b (cx (.ptr b g 0) y g)):=by
 refine⟨by kernel_rfl,fun w0 S γ w vs hW hp=>?_⟩;obtain⟨v,rfl,hv⟩:=yY hp;obtain⟨e,cs,he,hgen,hsz,hheap,hcs,hlen,hcells,hB,hS⟩:=hW.mem.blk b _ hk (by simp[cx]);replace hheap:=hheap.free rfl;have hxv:v= .pointer (some ⟨e.cb,0,none⟩):=by
  cases hv with
  |ptr _ _ _ _ e' ad hb hg' hv' hs' =>
   rw[he]at hb;injection hb with hb;subst hb
   exact hs' hgen.symm
 subst hxv;obtain⟨v0,c0,r0,-⟩:=hcells 0 _ rfl;obtain⟨v1,c1,r1,o1⟩:=hcells 1 _ rfl;have r0:=fI r0;subst r0;have hcs2:2≤cs.size:=by have:2≤e.cap:=hlen;omega
 have hcell:w.cell? ⟨e.cb,0,none⟩=some (.pointer none):=by simp[World.cell?,hheap,c0]
 have hshape:w.shape? e.cb=some (78,cs.size):=by simp[World.shape?,hheap];rfl
 have hcall:=qP Ab HC (by decide) (by kernel_rfl) e.cb cs.size hcs2 w hcell hshape (Lib.frozen_of_heap hheap 0);refine hcall.mono ?_;rintro e' w' ⟨rfl,rfl⟩;rw[setCell_eq_setRow w e.cb 0 cs _ _ _ hheap];obtain⟨hW',hE⟩:=hW.write hk he hheap hcs (by simp[cx]) rfl (avs:=[.ptr b g 0,y]) (ncs:=cs.setIfInBounds 0 (.pointer (some ⟨e.cb,0,none⟩))) (by simp) (by simp;omega) fun i x hx=>by
  match i,hx with
  |0,hx =>
   injection hx with hx;subst hx
   exact⟨_,by rw[Array.getElem?_setIfInBounds_self_of_lt (by omega)],hv,rfl⟩
  |1,hx =>
   injection hx with hx;subst hx
   exact⟨v1,by rw[Array.getElem?_setIfInBounds_ne (by decide)];exact c1,r1,o1⟩
  |i+2,hx=>simp at hx
 exact⟨_,S,γ,rfl,hE,hW',.pv _ _ (.tup _ _ rfl (fun i p c h=>by simp at h))⟩
theorem qR {μ:AM} {b g:Nat} {y:AV} (hk:μ[b]?=some (cx (.ptr b g 0) y g)):aN ctx 111 [.ptr b g 0] μ (.pv (.tup [])) μ:=by
 refine⟨by kernel_rfl,fun w0 S γ w vs hW hp=>?_⟩;obtain⟨v,rfl,hv⟩:=yY hp;obtain⟨e,cs,he,hgen,hsz,⟨_,hheap,-⟩,hcs,hlen,hcells,hB,hS⟩:=hW.mem.blk b _ hk (by simp[cx]);have ptrv:∀{u:Value},VR w S γ (.ptr b g 0) u→u= .pointer (some ⟨e.cb,0,none⟩):=fun {u} hv=>by
  cases hv with
  |ptr _ _ _ _ e' ad hb hg' hv' hs' =>
   rw[he]at hb;injection hb with hb;subst hb
   exact hs' hgen.symm
 have hxv:=ptrv hv;subst hxv;obtain⟨v0,c0,r0,-⟩:=hcells 0 _ rfl;have r0:=ptrv r0;subst r0;have hcell:w.cell? ⟨e.cb,0,none⟩=some (.pointer (some ⟨e.cb,0,none⟩)):=by simp[World.cell?,hheap,c0]
 have hcall:=Go.Proofs.Any.Builder_copyCheck_used Ab HC e.cb w hcell;refine hcall.mono ?_;rintro e' w' ⟨rfl,rfl⟩;exact⟨_,S,γ,rfl,.refl _ _ _,hW,.pv _ _ (.tup _ _ rfl (fun i p c h=>by simp at h))⟩
def Da:ay:=(⟨_,by conv=>(lhs;reduce;try simp only[cJ,Int.cast_ofNat_Int,Int.reduceNegSucc,UInt8.reduceOfNat])⟩:{x // codeOf Tryz.prog 83 (fun _=>false)=some x}).1
theorem Db:bp Tryz.prog 83 (fun _=>false)=some (Da,[.t 4,.t 5],19,true):=by kernel_rfl
def dc (l:List UInt8) (j:Nat):dT:=⟨eB l,j,1,5,false⟩
theorem lA {μ:AM} {m b:Nat} {k:dT} (h:aP μ m=true) (hk:k.cells.all (ck 3 m)=true):aP (μ.set b k) m=true:=by
 unfold aP at *;rw[List.all_eq_true]at h ⊢;intro x hx;rcases List.mem_or_eq_of_mem_set hx with h1|h1
 ·exact h x h1
 ·subst h1;exact hk
theorem Dc:∀(d:Nat) {v:AV} {m m':Nat},m≤m'→ck d m v=true→ck d m' v=true:=by
 intro d;induction d with
 |zero =>
  intro v m m' hmm h;cases v<;>simp only[ck]at h ⊢<;>first|exact h|(have:=Nat.blt_eq.mp h;exact Nat.blt_eq.mpr (by omega))
 |succ d ih =>
  intro v m m' hmm h;cases v<;>simp only[ck]at h ⊢<;>first
   |exact h
   |(have:=Nat.blt_eq.mp h;exact Nat.blt_eq.mpr (by omega))
   |(rw[List.all_eq_true]at h ⊢;exact fun x hx=>ih hmm (h x hx))
   |exact ih hmm h
theorem j9 {μ:AM} {k:dT} {m:Nat} (h:aP μ m=true) (hk:k.cells.all (ck 3 m)=true):aP (μ++[k]) m=true:=by
 unfold aP at *;rw[List.all_append,h];simpa using hk
theorem p8 (l:List UInt8) (m:Nat):(eB l).all (ck 3 m)=true:=by
 rw[List.all_eq_true];intro x hx;simp only[eB,List.mem_map]at hx;obtain⟨c,-,rfl⟩:=hx;rfl
theorem iQ {μ:AM} {m m':Nat} (h:aP μ m=true) (hm:m≤m'):aP μ m'=true:=by
 unfold aP at *;rw[List.all_eq_true]at *;intro k hk;have:=h k hk;rw[List.all_eq_true]at *;exact fun x hx=>Dc 3 hm (this x hx)
theorem xg {μ:AM} (hμ:aP μ μ.length=true) {b g:Nat} (hk:μ[b]?=some (cx (.pv (.val (.pointer none))) (.pv .nilsl) g)) (l:List UInt8) (hl:1≤l.length) (hl2:l.length≤140737488355328) :
  aN ctx 83 [.ptr b g 0,.pv (.str l)] μ (.pv (.tup [.int .i64 l.length,.val .nilIface])) (μ.set b (cx (.ptr b g 0) (.ref μ.length 0 0 l.length) g)++[dc l 0]):=by
 have h:=qQ hk;have hb:b<μ.length:=(List.getElem?_eq_some_iff.mp hk).1;refine bo (C:=ctx) (Fn.of Db rfl) rfl (by simp) rfl ?_ ?_
 ·refine j9 (lA (iQ hμ (by simp)) ?_) (p8 l _);simp[cx,ck,Nat.blt];omega
 unfold Da;refine aZ ?_;dsimp only[go_sem];try dsimp only[go_sem]
 refine⟨(by simp[vb]<;>omega),(by simp[vb]<;>omega),?_⟩;refine br [(7,{val:=some (.pv (.tup [])),mem:=some (μ.set b (cx (.ptr b g 0) (.pv .nilsl) g))})] ?_;dsimp only[go_sem];try dsimp only[go_sem]
 refine⟨(by simp[vb]<;>omega),?_,?_⟩
 ·exact⟨h,trivial⟩
 have hk1:∀x,(μ.set b x)[b]?=some x:=fun x=>by rw[List.getElem?_set_self hb]
 have hs1:∀x y,(μ.set b x++[y])[b]?=some x:=fun x y=>by rw[List.getElem?_append_left (by simpa using hb),List.getElem?_set_self hb]
 have hs2:∀x y z,(μ.set b x++[y]).set b z=μ.set b z++[y]:=fun x y z=>by rw[List.set_append_left _ _ (by simpa using hb),List.set_set]
 refine br [(14,{mode:=1})] ?_;simp only[hk1,hs1,hs2,cx,List.length_set,aB,aq,ar,au,az,mem_set,aH,go_sem];try simp only[hk1,hs1,hs2,cx,List.length_set,aB,aq,ar,au,az,mem_set,aH,go_sem]
 refine⟨(by simp[vb]<;>omega),(by simp[vb]<;>omega),?_⟩;refine aZ ?_;dsimp only[go_sem];try dsimp only[go_sem]
 refine⟨(by simp[vb]<;>omega),(by simp[vb]<;>omega),?_⟩;refine aZ ?_;dsimp only[go_sem];exact⟨⟨(by first|exact True.intro|(simp only[vb,lb];omega)|(simp[vb]<;>omega)),rfl⟩,[],(List.append_nil _).symm⟩
theorem yZ {μ:AM} (hμ:aP μ μ.length=true) {b g r j:Nat} {old:List UInt8} (hne:r≠b) (hk:μ[b]?=some (cx (.ptr b g 0) (.ref r j 0 old.length) g)) (hr:μ[r]?=some (dc old j)) (l:List UInt8) (hl2:old.length+l.length≤140737488355328) :
  aN ctx 83 [.ptr b g 0,.pv (.str l)] μ (.pv (.tup [.int .i64 l.length,.val .nilIface])) ((μ.set r (dc (old++l) (j+1))).set b (cx (.ptr b g 0) (.ref r (j+1) 0 (old.length+l.length)) g)):=by
 have h:=qR hk;have hb:b<μ.length:=(List.getElem?_eq_some_iff.mp hk).1;have hrl:r<μ.length:=(List.getElem?_eq_some_iff.mp hr).1;refine bo (C:=ctx) (Fn.of Db rfl) rfl (by simp) rfl ?_ ?_
 ·refine lA (lA (iQ hμ (by simp)) (p8 _ _)) ?_;simp[cx,ck,Nat.blt];omega
 unfold Da;refine aZ ?_;dsimp only[go_sem];try dsimp only[go_sem]
 refine⟨(by simp[vb]<;>omega),(by simp[vb]<;>omega),?_⟩;refine br [(7,{val:=some (.pv (.tup [])),mem:=some μ})] ?_;dsimp only[go_sem];try dsimp only[go_sem]
 refine⟨(by simp[vb]<;>omega),?_,?_⟩
 ·exact⟨h,trivial⟩
 unfold cx at hk;unfold dc at hr;have hs1:∀x,(μ.set r x)[b]?=μ[b]?:=fun x=>by rw[List.getElem?_set_ne hne]
 have hap:eB old++eB l=eB (old++l):=by simp[eB]
 have hol:(eB old).length=old.length:=lh old;refine aZ ?_;simp only[hk,hr,hs1,hap,aB,aq,ar,au,az,mem_set,aH,go_sem];try simp only[hk,hr,hs1,hap,aB,aq,ar,au,az,mem_set,aH,go_sem]
 refine⟨(by simp[vb,hol]<;>omega),(by simp[vb,hol]<;>omega),?_⟩;refine aZ ?_;dsimp only[go_sem];try dsimp only[go_sem]
 refine⟨(by simp[vb]<;>omega),(by simp[vb]<;>omega),?_⟩;refine aZ ?_;dsimp only[go_sem];exact⟨⟨(by first|exact True.intro|(simp only[vb,lb];omega)|(simp[vb]<;>omega)),rfl⟩,[],(List.append_nil _).symm⟩
def FV:ay:=(⟨_,by conv=>(lhs;reduce;try simp only[cJ,Int.cast_ofNat_Int,Int.reduceNegSucc,UInt8.reduceOfNat])⟩:{x // codeOf Tryz.prog 51 (fun _=>false)=some x}).1
theorem GK:bp Tryz.prog 51 (fun _=>false)=some (FV,[.t 2],8,true):=by kernel_rfl
theorem EN {μ:AM} (hμ:aP μ μ.length=true) {b g r j n:Nat} {x:AV} (hk:μ[b]?=some (cx x (.ref r j 0 n) g)) :
  aN ctx 51 [.ptr b g 0] μ (.pv (.int .i64 n)) μ:=by
 refine bo (C:=ctx) (Fn.of GK rfl) rfl (by simp) rfl hμ ?_;unfold FV;unfold cx at hk;refine aZ ?_;dsimp only[go_sem];try dsimp only[go_sem]
 refine⟨(by simp[vb]<;>omega),(by simp[vb]<;>omega),?_⟩;refine aZ ?_;simp only[hk,aB,aq,ar,au,az,mem_set,aH,go_sem];try simp only[hk,aB,aq,ar,au,az,mem_set,aH,go_sem]
 refine⟨(by simp[vb]<;>omega),(by simp[vb]<;>omega),?_⟩;refine aZ ?_;dsimp only[go_sem];exact⟨⟨(by first|exact True.intro|(simp only[vb,lb];omega)|(simp[vb]<;>omega)),rfl⟩,[],(List.append_nil _).symm⟩
set_option maxRecDepth 100000 in
theorem Bp {P:Program} {ρ:Ren} (L:Go.Proofs.Lays.n169 P ρ) (X:Builder.Extra P ρ) (b g cap:Nat) (cur:Array Value) (l:List UInt8) (w:World) (h0:l≠[])
  (hc1:w.cell? ⟨b,1,none⟩=some (.slice (some ⟨g,0,none⟩) l.length cap)) (hg:w.heap[g]?=some (.cells cur (ρ.t 5) (0,0))) (hcap:l.length≤cap) (hcm:cap≤maxLen) (hcur:l.length≤cur.size)
  (hcells:∀(j:Nat) x,l[j]?=some x→cur[j]?=some (.int .u8 x.toNat)) :
  Calls P (ρ.f 169) #[.pointer (some ⟨b,0,none⟩)] w fun e w'=>e= .returned (.string ⟨l.toArray⟩)∧w'=w.drew.freeze ⟨g,0,none⟩ l.length:=by
 have hl0:l.length≠0:=by simpa using h0
 have c1:w.drew.cell? ⟨b,1,none⟩=some (.slice (some ⟨g,0,none⟩) l.length cap):=hc1;have hSD:(Builtin.unsafeSliceData_ #[(ρ.t 37)] (ρ.t 127) #[.slice (some ⟨g,0,none⟩) l.length cap]).run P w.drew= .ok (.pointer (some ⟨g,0,none⟩)) w.drew :=
  Lib.run_unsafeSliceData_row _ _ _ _ _ _ (by omega)
 have hUS:(Builtin.unsafeString_ #[(ρ.t 127),(ρ.t 3)] (ρ.t 9) #[.pointer (some ⟨g,0,none⟩),.int .i64 l.length]).run P w.drew= .ok (.string ⟨l.toArray⟩) (w.drew.freeze ⟨g,0,none⟩ l.length):=by
  refine Lib.run_unsafeString_row w.drew (ρ.t 127) (ρ.t 3) (ρ.t 9) (ρ.t 5) L.t127 X.cellsByte g cur.size (by have hg':w.drew.heap[g]?=some (.cells cur (ρ.t 5) (0,0)):=hg;simp[World.shape?,hg']) l h0 (by omega) (by unfold maxLen at hcm;omega) ?_;intro j x hx;have hg':w.drew.heap[g]?=some (.cells cur (ρ.t 5) (0,0)):=hg;rw[Addr.add_lit,Nat.zero_add];simp[World.cell?,hg',hcells j x hx]
 have mixed:=L.mixed;have t72:=L.t72;have a72:=L.a72;have z72:=L.z72;have v72:=L.v72;have u72:=run_underlying L.t72;have t70:=L.t70;have a70:=L.a70;have z70:=L.z70;have v70:=L.v70;have u70:=run_underlying L.t70;have t37:=L.t37;have a37:=L.a37;have z37:=L.z37;have v37:=L.v37;have u37:=run_underlying L.t37;have t127:=L.t127;have a127:=L.a127;have z127:=L.z127;have v127:=L.v127;have u127:=run_underlying L.t127;have t3:=L.t3;have a3:=L.a3;have z3:=L.z3;have v3:=L.v3;have u3:=run_underlying L.t3;have t9:=L.t9;have a9:=L.a9;have z9:=L.z9;have v9:=L.v9;have u9:=run_underlying L.t9
 have t5:=X.t5;have a5:=X.a5;have z5:=X.z5;have v5:=X.v5;have u5:=run_underlying X.t5;go_enter L.f169,Go.Proofs.Body.n169_ntmps ρ
 go_wp2
 go_region_o
 all_goals (go_wp2;go_ret;exact⟨rfl,rfl⟩)
theorem Wd.froze {C:Ctx} {w0 w:World} {S:Nat→Prop} {γ:Gh} {μ:AM} (hW:Wd C w0 S γ μ w) {b:Nat} {k:dT} {e:tq} {cs:Array Value} {w':World} {fz:Nat×Nat} (hk:μ[b]?=some k) (he:γ b=some e) (hheap:w.heap[e.cb]?=some (.cells cs k.elem (0,0))) (hz:k.sz≠0) (hfz:k.frozen=false)
  (hos:w'.os=w.os) (htape:w'.tape=w.tape) (hout:w'.output=w.output) (hsize:w.heap.size=w'.heap.size) (hblk:∀g,g≠e.cb→w'.heap[g]?=w.heap[g]?) (hrow:w'.heap[e.cb]?=some (.cells cs k.elem fz)) :
  Wd C w0 S γ (μ.set b {k with frozen:=true}) w'∧Ext w S γ w' S γ:=by
 obtain⟨e',cs',he',hgen,hsz,hheap',hcs',hlen',hcells,hB,hS⟩:=hW.mem.blk b k hk hz;rw[he]at he';injection he' with he';subst he'
 replace hheap':=hheap'.free hfz;rw[hheap]at hheap';injection hheap' with hheap';injection hheap' with hheap';subst hheap'
 have hE:Ext w S γ w' S γ:=⟨⟨fun _ h=>h,fun g hg=>hblk g (fun h=>hS hfz (h▸hg))⟩,fun b e h=>⟨e,h,Nat.le_refl _,fun _=>rfl⟩,fun _ h=>.inl h,fun b e h=>.inl ⟨b,e,h,rfl⟩,by omega,fun g _ hn=>hblk g (fun h=>hn b e he h.symm)⟩
 refine⟨⟨⟨fun b' k' hk' hz'=>?_,fun b' k' hk' hz'=>?_,fun b' hb'=>hW.mem.none b' (by simpa using hb'),hW.mem.inj⟩,?_,fun g hg=>by have:=hW.live g hg;omega,hW.env⟩,hE⟩
 ·by_cases hbb:b=b'
  ·subst hbb;have hbl:b<μ.length:=(List.getElem?_eq_some_iff.mp hk).1;rw[List.getElem?_set_self hbl]at hk';injection hk' with hk'
   subst hk';exact⟨e,cs,he,hgen,hsz,⟨fz,hrow,fun h=>by cases h⟩,hcs',hlen',fun i x hx=>by
    obtain⟨v,h1,h2,h3⟩:=hcells i x hx;exact⟨v,h1,h2.ext hE,h3⟩,hB,fun h=>by cases h⟩
  ·rw[List.getElem?_set_ne hbb]at hk';obtain⟨e2,cs2,h1,h2,h3,h4,h5,h6,h7,h8,h9⟩:=hW.mem.blk b' k' hk' hz';have hne:e2.cb≠e.cb:=fun h=>hbb (hW.mem.inj b b' e e2 he h1 h.symm)
   exact⟨e2,cs2,h1,h2,h3,h4.congr (hblk e2.cb hne) rfl id,h5,h6,fun i x hx=>by
    obtain⟨v,g1,g2,g3⟩:=h7 i x hx;exact⟨v,g1,g2.ext hE,g3⟩,h8,h9⟩
 ·have hbb:b≠b':=fun h=>by
   subst h;have hbl:b<μ.length:=(List.getElem?_eq_some_iff.mp hk).1;rw[List.getElem?_set_self hbl]at hk';injection hk' with hk'
   subst hk';exact hz hz'
  rw[List.getElem?_set_ne hbb]at hk';obtain⟨e2,h1,h2,h3,h4,h5,h6⟩:=hW.mem.mp b' k' hk' hz';have hne:e2.cb≠e.cb:=fun h=>hbb (hW.mem.inj b b' e e2 he h1 h.symm)
  exact⟨e2,h1,h2,h3,h4.ext hE (hblk e2.cb hne),h5,h6⟩
 ·exact hW.below.trans ⟨hos,htape,hout,by omega,fun g hg=>hblk g (by omega)⟩
theorem y5 {μ:AM} {b g r j:Nat} {x:AV} {l:List UInt8} (h0:l≠[]) (hk:μ[b]?=some (cx x (.ref r j 0 l.length) g)) (hr:μ[r]?=some (dc l j)) :
  aN ctx 52 [.ptr b g 0] μ (.pv (.str l)) (μ.set r {dc l j with frozen:=true}):=by
 refine⟨by kernel_rfl,fun w0 S γ w vs hW hp=>?_⟩;obtain⟨v,rfl,hv⟩:=yY hp;obtain⟨e,cs,he,hgen,hsz,⟨_,hheap,-⟩,hcs,hlen,hcells,hB,hS⟩:=hW.mem.blk b _ hk (by simp[cx]);have hxv:v= .pointer (some ⟨e.cb,0,none⟩):=by
  cases hv with
  |ptr _ _ _ _ e' ad hb hg' hv' hs' =>
   rw[he]at hb;injection hb with hb;subst hb
   exact hs' hgen.symm
 subst hxv;obtain⟨er,cur,he2,hgen2,hsz2,hheap2,hcs2,hlen2,hcells2,hB2,hS2⟩:=hW.mem.blk r _ hr (by simp[dc]);replace hheap2:=hheap2.free rfl;obtain⟨v1,c1,r1,-⟩:=hcells 1 _ rfl;have hll:l.length≠0:=by simpa using h0
 obtain⟨cap,hv1,hcapc,hncap,hcapm⟩:∃cap,v1= .slice (some ⟨er.cb,0,none⟩) l.length cap∧0+cap*er.sz=er.cap∧l.length≤cap∧cap≤maxLen:=by
  cases r1 with
  |ref _ _ _ _ _ e' ad c hb hg' hvc' hs' =>
   rw[he2]at hb;injection hb with hb;subst hb
   rcases hs' hgen2.symm with h|⟨-,h,-⟩
   ·exact h
   ·exact absurd h (by simp[dc])
 subst hv1;have hcell:w.cell? ⟨e.cb,1,none⟩=some (.slice (some ⟨er.cb,0,none⟩) l.length cap):=by simp[World.cell?,hheap,c1]
 have hbl:(eB l).length≤er.cap:=hlen2;rw[lh]at hbl;have hcall:=Bp {Tryz.EG with} Tryz.pc e.cb er.cb cap cur l w h0 hcell hheap2 hncap hcapm (by omega) fun j x hx=>by
  obtain⟨u,h1,h2,-⟩:=hcells2 j (.pv (.int .u8 x.toNat)) (by simp[dc,eB,hx]);have h3:=cv h2;cases h3;exact h1
 refine hcall.mono ?_;rintro e' w' ⟨rfl,rfl⟩;obtain⟨hW1,hE1⟩:=hW.drew;have hfz:(w.drew.freeze ⟨er.cb,0,none⟩ l.length).heap[er.cb]?=some (.cells cur 5 (0,0+l.length)):=by
  have hg':w.drew.heap[er.cb]?=some (.cells cur 5 (0,0)):=hheap2;unfold World.freeze;rw[if_neg hll];simp[Array.getElem?_modify,hg']
 obtain⟨hW2,hE2⟩:=Wd.froze hW1 (fz:=(0,0+l.length)) (w':=w.drew.freeze ⟨er.cb,0,none⟩ l.length) hr he2 hheap2 (by simp[dc]) rfl (by unfold World.freeze;rw[if_neg hll]) (by unfold World.freeze;rw[if_neg hll]) (by unfold World.freeze;rw[if_neg hll]) (by unfold World.freeze;rw[if_neg hll];simp) (fun g hg=>by
  unfold World.freeze;rw[if_neg hll];simp only[Array.getElem?_modify];rw[if_neg (fun h=>hg h.symm)]) hfz
 exact⟨_,S,γ,rfl,hE1.trans hE2,hW2,.pv _ _ (.str l)⟩
end
end Pur
end
section
namespace Rf
open Pur (aL)
def bk (x:aS):Bool:=aL x.kind 0 1&&aL x.index 0 2048&&aL x.cell (if x.kind=1 then 0 else -1) 127
def bQ (k c a:Int) (n:Nat):Bool :=
 if k=0 then decide (n=0)&&decide (c=0)&&decide (a=0)
 else if k=1 then decide (n=2)&&aL c 0 127&&aL a (-1000000) 1000000
 else if k=2 then decide (1≤n)&&decide (n≤1024)&&decide (c=0)&&decide (a=0)
 else false
def cT:Tree→Bool
 | .node k s c a l=>s.all bk&&bQ k c a l.length&&(l.attach.map fun x=>cT x.1).all id
decreasing_by
 have:=List.sizeOf_lt_of_mem x.2;simp;omega
theorem cD (k:Int) (s:List aS) (c a:Int) (l:List Tree):cT (.node k s c a l)=(s.all bk&&bQ k c a l.length&&l.all cT):=by
 rw[cT,attach_map];congr 1;rw[List.all_map];rfl
theorem GL {k c a:Int} {n:Nat} (h:k=0) (hc:(0<(n:Int)∨¬c=0)∨¬a=0):bQ k c a n=false:=by
 subst h;cases hb:bQ 0 c a n with
 |false=>rfl
 |true=>simp[bQ]at hb;omega
theorem GN {k c a:Int} {n:Nat} (h:k=0) (hc:(¬0<(n:Int)∧c=0)∧a=0):bQ k c a n=true:=by
 subst h;simp[bQ];omega
theorem GO {k c a:Int} {n:Nat} (h:k=1) (hc:(¬(n:Int)=2∨aL c 0 127=false)∨aL a (-1000000) 1000000=false):bQ k c a n=false:=by
 subst h;cases hb:bQ 1 c a n with
 |false=>rfl
 |true =>
  simp[bQ]at hb;rcases hc with(h|h)|h
  ·omega
  ·rw[hb.1.2]at h;cases h
  ·rw[hb.2]at h;cases h
theorem GP {k c a:Int} {n:Nat} (h:k=1) (hc:((n:Int)=2∧aL c 0 127=true)∧aL a (-1000000) 1000000=true):bQ k c a n=true:=by
 subst h;simp[bQ,hc.1.2,hc.2];omega
theorem GQ {k c a:Int} {n:Nat} (h:k=2) (hc:(((n:Int)<1∨1024<(n:Int))∨¬c=0)∨¬a=0):bQ k c a n=false:=by
 subst h;cases hb:bQ 2 c a n with
 |false=>rfl
 |true=>simp[bQ]at hb;omega
theorem GR {k c a:Int} {n:Nat} (h:k=2) (hc:((¬(n:Int)<1∧¬1024<(n:Int))∧c=0)∧a=0):bQ k c a n=true:=by
 subst h;simp[bQ];omega
theorem HI {k c a:Int} {n:Nat} (h0:¬k=0) (h1:¬k=1) (h2:¬k=2):bQ k c a n=false:=by
 simp[bQ,h0,h1,h2]
end Rf
namespace Pur
open Go.RowKit
attribute [local go_sem] ξ bV gF cd bI cG jK List.map bB aR get put tmpsOf eY oK kY oa conds ev cond_true cond_false Nat.beq Nat.ble Nat.add quiet fc cW dH zP List.append_eq List.nil_append List.cons_append eX gq gr gu gv gw gx kf jM fQ pC gZ calm quiet.isCallK dU List.getElem?_cons_zero List.getElem?_cons_succ cE dM cellsOf List.all bZ List.length_cons List.length_nil jr bC List.drop List.take List.getD Option.getD_some Eb Ec Cn Ed Ee Ef kZ nY k6 k7 setAt List.set Nat.reduceAdd Nat.reduceMul dy ca refsOf bW cS scalar eJ gO cU eI bA after freeze mT l5 bw fS iN jk iB iV iW gf iX iY jb jc jd je jf jg jh ji jj gg gi gj fR pD bytesOf cf fk a8 cH fN bP cF dV still dk gN eC jH cA iC List.isEmpty gk gm gp Int.reduceToNat Nat.mul_one Nat.reduceSub yx fp ef fl fe look fm strip guarded my iE jq eH jG ek mD iZ ja Bool.or_false Bool.or_true Bool.and_true Bool.and_false Nat.blt iz gI j0 dB idxOf kp l6 o4 gy bA tz
open Rf
theorem dh {α:Type} (p:α→Bool) (l:List α) (k:Nat) (d:α) (hk:k<l.length):(l.take (k+1)).all p=((l.take k).all p&&p (l.getD k d)):=by
 rw[aJ l k d hk,List.all_append];simp
theorem kq {α:Type} (p:α→Bool) (l:List α) (k:Nat) (d:α) (hk:k<l.length) (h:p (l.getD k d)=false):l.all p=false:=by
 cases hb:l.all p with
 |false=>rfl
 |true=>rw[List.all_eq_true.mp hb _ (aO hk)]at h;cases h
def GS:ay:=(⟨_,by conv=>(lhs;reduce;try simp only[cJ,Int.cast_ofNat_Int,Int.reduceNegSucc,UInt8.reduceOfNat])⟩:{x // codeOf Tryz.prog 41 (fun _=>false)=some x}).1
theorem I4:bp Tryz.prog 41 (fun _=>false)=some (GS,[.t 2],111,true):=by kernel_rfl
theorem Bq:∀(t:Tree),wt t≤1000000000→aj ctx 41 [aA t] (.bool (cT t)):=by
 refine Tree.ind fun kd s c a l ih hw=>?_
 rw[bE]at hw;have hl:=dR l;have hins:=ly;rw[cD];refine af (C:=ctx) (Fn.of I4 rfl) rfl ?_;unfold GS;repeat' (first|((with_reducible first|show aG _|show aM _);simp[vb]<;>omega)|exact(rfl:some _=_)|((fail_if_success refine aT ?_);refine aZ ?_;(repeat1' dsimp only[GS,aA,Tree.kind,Tree.steps,Tree.cell,Tree.pos,Tree.kids,aa,ah,go_sem]);first|refine aU ?_ ?_ rfl ?_|apply aV|apply aW|(refine aX (fun hc=>?_) fun hc=>?_<;>first|(cases hc;done)|(exfalso;simp at hc<;>omega)|(try simp only[bn]at hc;try contradiction))|skip))
 refine bg s.length (fun k=>(s.take k).all bk=true) (fun k=>[(1,.ptr 0 0 0),(3,.pv (.int .i64 k))]) (fun _=>[ae (.node kd s c a l)]) rfl (by (repeat' (first|exact trivial|refine And.intro (by first|rfl|(simp[get,Nat.beq]<;>omega)|(dsimp only[get];congr 1<;>first|rfl|omega|(simp<;>omega))) ?_))) ⟨[],rfl⟩ (fun _=>⟨Nat.zero_le _,rfl,rfl⟩) fun k hk hP=>?_
 by_cases hlt:k<s.length
 ·have e:=bM bu s k zs hlt;have hle:=cR s;have h1:=dh bk s k zs hlt;have h2:=kq bk s k zs hlt;rw[h1,hP,Bool.true_and];clear h1;generalize s.getD k zs=x at *;repeat' (first|((with_reducible show aG _);first|exact True.intro|(simp only[vb,lb,e,hle,hlt,ly,aw];and_intros<;>first|omega|(simp<;>omega)))|((with_reducible show aM _);first|exact True.intro|((try dsimp only[go_sem]);(simp[vb,e,hle,hlt,ly,aw]<;>omega)))|exact(rfl:some _=_)|((fail_if_success refine aT ?_);refine bX [(69,fun ps=>match ps with|[.int _ n,.int _ lo,.int _ hi]=>some (.bool (aL n lo hi))|_=>none)] [ξ 18 (.agg [.int .i64 x.kind,.int .i64 x.index,.int .i64 x.cell])] ?_;(repeat1' dsimp only[GS,ae,Tree.kind,Tree.steps,Tree.cell,Tree.pos,Tree.kids,aa,ah,go_sem]);first|refine aU ?_ ?_ rfl ?_|apply aV|apply aW|(refine aX (fun hc=>?_) fun hc=>?_<;>first|(cases hc;done)|(exfalso;(simp at hc<;>omega))|(try simp only[bn]at hc;try contradiction))|skip))
  all_goals first
   |(rw[h2 (by cases h:bk x<;>simp_all [bk]),Bool.false_and,Bool.false_and];done)
   |(
    refine⟨hlt,?_,by (repeat' (first|exact trivial|refine And.intro (by first|rfl|(simp[get,Nat.beq]<;>omega)|(dsimp only[get];congr 1<;>first|rfl|omega|(simp<;>omega))) ?_)),_,rfl⟩;simp_all [bk];done)
 ·obtain rfl:k=s.length:=by omega
  rw[List.take_length]at hP;repeat' (first|((with_reducible show aG _);first|exact True.intro|(simp only[vb,lb,hlt,ly];and_intros<;>first|omega|(simp<;>omega)))|((with_reducible show aM _);first|exact True.intro|((try dsimp only[go_sem]);(simp[vb,hlt,ly]<;>omega)))|exact(rfl:some _=_)|((fail_if_success refine aT ?_);refine fu [(69,fun ps=>match ps with|[.int _ n,.int _ lo,.int _ hi]=>some (.bool (aL n lo hi))|_=>none)] ?_;(repeat1' dsimp only[GS,ae,Tree.kind,Tree.steps,Tree.cell,Tree.pos,Tree.kids,aa,ah,go_sem]);first|refine aU ?_ ?_ rfl ?_|apply aV|apply aW|(refine aX (fun hc=>?_) fun hc=>?_<;>first|(cases hc;done)|(exfalso;(simp at hc<;>omega))|(try simp only[bn]at hc;try contradiction))|skip))
  all_goals first
   |(rw[hP,show bQ kd c a l.length=false by first|exact GL (by assumption) hc|exact GO (by assumption) hc|exact GQ (by assumption) hc|exact HI (by assumption) (by assumption) hc];rfl)
   |(
    have ht:bQ kd c a l.length=true:=by first|exact GN (by assumption) hc|exact GP (by assumption) hc|exact GR (by assumption) hc
    rw[hP,ht,Bool.true_and,Bool.true_and];refine bg l.length (fun k=>(l.take k).all cT=true) (fun k=>[(1,.ptr 0 0 0),(6,.pv (.int .i64 k))]) (fun _=>[ae (.node kd s c a l)]) rfl (by (repeat' (first|exact trivial|refine And.intro (by first|rfl|(simp[get,Nat.beq]<;>omega)|(dsimp only[get];congr 1<;>first|rfl|omega|(simp<;>omega))) ?_))) ⟨[],rfl⟩ (fun _=>⟨Nat.zero_le _,rfl,rfl⟩) fun k hk hP=>?_
    by_cases hlt:k<l.length
    ·have e:=cK l k hlt;have hle:=cL l;have hx:=ih _ (aO (d:=zt) hlt) (by have:=fw (aO (d:=zt) hlt);omega);have h1:=dh cT l k zt hlt;have h2:=kq cT l k zt hlt;rw[h1,hP,Bool.true_and];clear h1;generalize l.getD k zt=x at *;generalize cT x=fx at *;obtain⟨k2,s2,c2,a2,l2⟩:=x;simp only[aA,Tree.kind,Tree.steps,Tree.cell,Tree.pos,Tree.kids]at e hx;repeat' (first|((with_reducible first|show aG _|show aM _);(try dsimp only[go_sem]);first|(simp[vb,e,hle,hlt,hx,aa,ah]<;>omega)|(simp only[vb,and_true,true_implies];(repeat' (first|(with_reducible assumption)|(with_reducible apply And.intro)|intro _|((fail_if_success (with_reducible show(_:Int)≤_));assumption)))<;>first|omega|(simp only[ab,e,hle,hlt,hx,aa,ah];done)|(simp[e,hle,hlt,hx,aa,ah]<;>omega)))|exact(rfl:some _=_)|((fail_if_success refine aT ?_);refine bX [(41,fun _=>some (.bool fx))] [ξ 108 (.agg [.int .i64 k2,aa s2,.int .i64 c2,.int .i64 a2,ah l2])] ?_;(repeat1' dsimp only[GS,ae,Tree.kind,Tree.steps,Tree.cell,Tree.pos,Tree.kids,aa,ah,go_sem]);first|refine aU ?_ ?_ rfl ?_|apply aV|apply aW|(refine aX (fun hc=>?_) fun hc=>?_<;>first|(cases hc;done)|(exfalso;simp[e,hle,hlt,hx,aa,ah]at hc<;>omega)|(try simp only[bn]at hc;try contradiction))|skip))
     all_goals first
      |(rw[h2 (by simpa using hc)];done)
      |exact⟨hlt,by simpa using hc,by (repeat' (first|exact trivial|refine And.intro (by first|rfl|(simp[get,Nat.beq]<;>omega)|(dsimp only[get];congr 1<;>first|rfl|omega|(simp<;>omega))) ?_)),[],rfl⟩
    ·obtain rfl:k=l.length:=by omega
     rw[List.take_length]at hP;repeat' (first|((with_reducible first|show aG _|show aM _);simp[vb,hlt]<;>omega)|exact(rfl:some _=_)|((fail_if_success refine aT ?_);refine aZ ?_;(repeat1' dsimp only[GS,ae,Tree.kind,Tree.steps,Tree.cell,Tree.pos,Tree.kids,aa,ah,go_sem]);first|refine aU ?_ ?_ rfl ?_|apply aV|apply aW|(refine aX (fun hc=>?_) fun hc=>?_<;>first|(cases hc;done)|(exfalso;simp[hlt]at hc<;>omega)|(try simp only[bn]at hc;try contradiction))|skip))
     rw[hP])
end Pur
end
section
namespace Rf
def eS:Tree→Int→Int
 | .node _ s _ _ l,left=>l.attach.foldl (fun n x=>if n>left then n else n+eS x.1 (left-n)) (1+s.length)
decreasing_by
 have:=List.sizeOf_lt_of_mem x.2;simp;omega
def gW (left:Int):Int→List Tree→Int
 |n,[]=>n
 |n,t::r=>if n>left then n else gW left (n+eS t (left-n)) r
theorem uh (left:Int):∀(l:List Tree) (n:Int),n>left→l.foldl (fun n x=>if n>left then n else n+eS x (left-n)) n=n
 |[],_,_=>rfl
 |t::r,n,h=>by rw[List.foldl_cons,if_pos h];exact uh left r n h
theorem sD (left:Int):∀(l:List Tree) (n:Int),l.foldl (fun n x=>if n>left then n else n+eS x (left-n)) n=gW left n l
 |[],_=>rfl
 |t::r,n=>by
  rw[List.foldl_cons,gW];by_cases h:n>left
  ·rw[if_pos h,if_pos h];exact uh left r n h
  ·rw[if_neg h,if_neg h];exact sD left r _
theorem kr (k:Int) (s:List aS) (c a:Int) (l:List Tree) (left:Int):eS (.node k s c a l) left=gW left (1+s.length) l:=by
 rw[eS,←sD];exact List.foldl_attach (l:=l) (f:=fun n x=>if n>left then n else n+eS x (left-n)) (b:=1+(s.length:Int))
theorem Ae:∀(t:Tree) (left:Int),1≤eS t left∧eS t left≤wt t:=by
 refine Tree.ind fun k s c a l ih left=>?_
 have:∀(l:List Tree),(∀t∈l,∀left,1≤eS t left∧eS t left≤wt t)→∀n:Int,n≤gW left n l∧gW left n l≤n+fg l:=fun l=>by
  induction l with
  |nil=>intro _ n;simp[gW,fg]
  |cons t r ihr =>
   intro h n;rw[gW,fg];by_cases hn:n>left
   ·rw[if_pos hn];omega
   ·rw[if_neg hn];have h1:=h t (by simp) (left-n);have h2:=ihr (fun x hx=>h x (by simp[hx])) (n+eS t (left-n));omega
 have:=this l ih (1+s.length);rw[kr,bE];omega
theorem xh:∀(t:Tree) (left:Int),(wt t:Int)≤left→eS t left=wt t:=by
 refine Tree.ind fun k s c a l ih left hle=>?_
 have:∀(l:List Tree),(∀t∈l,∀left,(wt t:Int)≤left→eS t left=wt t)→∀n:Int,n+fg l≤left→gW left n l=n+fg l:=fun l=>by
  induction l with
  |nil=>intro _ n _;simp[gW,fg]
  |cons t r ihr =>
   intro h n hn;rw[fg]at hn ⊢;rw[gW,if_neg (by omega),h t (by simp) (left-n) (by omega),ihr (fun x hx=>h x (by simp[hx])) _ (by omega)];omega
 rw[bE]at hle ⊢;rw[kr,this l ih _ (by omega)];omega
theorem Br:∀(t:Tree) (left:Int),eS t left≤left↔(wt t:Int)≤left:=by
 refine Tree.ind fun k s c a l ih left=>?_
 have:∀(l:List Tree),(∀t∈l,∀left,eS t left≤left↔(wt t:Int)≤left)→∀n:Int,gW left n l≤left↔n+fg l≤left:=fun l=>by
  induction l with
  |nil=>intro _ n;simp[gW,fg]
  |cons t r ihr =>
   intro h n;rw[gW,fg];by_cases hn:n>left
   ·rw[if_pos hn];omega
   ·rw[if_neg hn];have h1:=h t (by simp) (left-n);have h2:=ihr (fun x hx=>h x (by simp[hx])) (n+eS t (left-n));have h3:=Ae t (left-n);by_cases h4:(wt t:Int)≤left-n
    ·have h5:eS t (left-n)=wt t:=by
      have:=h1.mpr h4;exact xh t (left-n) h4
     rw[h5]at h2 ⊢;rw[h2];omega
    ·have h5:¬eS t (left-n)≤left-n:=fun h=>h4 (h1.mp h)
     rw[h2];omega
 have:=this l ih (1+s.length);rw[kr,bE,this];omega
def eV (t:Tree):Bool:=decide (db t≤4096)&&decide (wt t≤65536)&&cT t
end Rf
namespace Pur
open Go.RowKit
attribute [local go_sem] ξ bV gF cd bI cG jK List.map bB aR get put tmpsOf eY oK kY oa conds ev cond_true cond_false Nat.beq Nat.ble Nat.add quiet fc cW dH zP List.append_eq List.nil_append List.cons_append eX gq gr gu gv gw gx kf jM fQ pC gZ calm quiet.isCallK dU List.getElem?_cons_zero List.getElem?_cons_succ cE dM cellsOf List.all bZ List.length_cons List.length_nil jr bC List.drop List.take List.getD Option.getD_some Eb Ec Cn Ed Ee Ef kZ nY k6 k7 setAt List.set Nat.reduceAdd Nat.reduceMul dy ca refsOf bW cS scalar eJ gO cU eI bA after freeze mT l5 bw fS iN jk iB iV iW gf iX iY jb jc jd je jf jg jh ji jj gg gi gj fR pD bytesOf cf fk a8 cH fN bP cF dV still dk gN eC jH cA iC List.isEmpty gk gm gp Int.reduceToNat Nat.mul_one Nat.reduceSub yx fp ef fl fe look fm strip guarded my iE jq eH jG ek mD iZ ja Bool.or_false Bool.or_true Bool.and_true Bool.and_false Nat.blt iz gI j0 dB idxOf kp l6 o4 gy bA tz
open Rf
def c37:ay:=(⟨_,by conv=>(lhs;reduce;try simp only[cJ,Int.cast_ofNat_Int,Int.reduceNegSucc,UInt8.reduceOfNat])⟩:{x // codeOf Tryz.prog 37 (fun _=>false)=some x}).1
theorem I5:bp Tryz.prog 37 (fun _=>false)=some (c37,[.t 4],32,true):=by kernel_rfl
def c12:ay:=(⟨_,by conv=>(lhs;reduce;try simp only[cJ,Int.cast_ofNat_Int,Int.reduceNegSucc,UInt8.reduceOfNat])⟩:{x // codeOf Tryz.prog 12 (fun _=>false)=some x}).1
theorem I6:bp Tryz.prog 12 (fun _=>false)=some (c12,[.t 4],10,true):=by kernel_rfl
def I7:ay:=(⟨_,by conv=>(lhs;reduce;try simp only[cJ,Int.cast_ofNat_Int,Int.reduceNegSucc,UInt8.reduceOfNat])⟩:{x // codeOf Tryz.prog 14 (fun _=>false)=some x}).1
theorem I8:bp Tryz.prog 14 (fun _=>false)=some (I7,[.t 2],15,true):=by kernel_rfl
theorem vx (t:Tree) (hw:wt t≤1000000000):aj ctx 14 [aA t] (.bool (eV t)):=by
 have h1:=xe t hw;have h2:=EL t hw;have h3:=Bq t hw;unfold eV;generalize db t=d at *;generalize wt t=wv at *;generalize cT t=fb at *;unfold aA at h1 h2 h3;refine af (C:=ctx) (Fn.of I8 rfl) rfl ?_;unfold I7;repeat' (first|((with_reducible first|show aG _|show aM _);(try dsimp only[go_sem]);first|(simp[vb,h1,h2,h3]<;>omega)|(simp only[vb,and_true,true_implies];(repeat' (first|(with_reducible assumption)|(with_reducible apply And.intro)|intro _|((fail_if_success (with_reducible show(_:Int)≤_));assumption)))<;>first|omega|(simp only[ab,h1,h2,h3];done)|(simp[h1,h2,h3]<;>omega)))|exact(rfl:some _=_)|((fail_if_success refine aT ?_);refine fu [(18,fun _=>some (.int .i64 d)),(40,fun _=>some (.int .i64 wv)),(41,fun _=>some (.bool fb))] ?_;(repeat1' dsimp only[I7,aA,go_sem]);first|refine aU ?_ ?_ rfl ?_|apply aV|apply aW|(refine aX (fun hc=>?_) fun hc=>?_<;>first|(cases hc;done)|(exfalso;simp[h1,h2,h3]at hc<;>omega)|(try simp only[bn]at hc;try contradiction))|skip))
 rw[ie,ie,show decide ((d:Int)≤4096)=decide (d≤4096) from decide_eq_decide.mpr (by omega),show decide ((wv:Int)≤65536)=decide (wv≤65536) from decide_eq_decide.mpr (by omega)]
end Pur
end
section
namespace Rf
inductive vy (B:Nat):Tree→Prop where
 |node (k:Int) (s:List aS) (c a:Int) (l:List Tree):s.length≤B→l.length≤B→(∀t∈l,vy B t)→vy B (.node k s c a l)
theorem Dd {B:Nat}:∀(t:Tree),vy B t→∀left:Int,0≤left→eS t left≤left+1+B:=by
 refine Tree.ind fun k s c a l ih hw left h0=>?_
 cases hw with
 |node _ _ _ _ _ h1 h2 h3 =>
  have:∀(l:List Tree),(∀t∈l,∀left:Int,0≤left→eS t left≤left+1+B)→∀n:Int,n≤left+1+B→gW left n l≤left+1+B:=fun l=>by
   induction l with
   |nil=>intro _ n hn;exact hn
   |cons t r ihr =>
    intro h n hn;rw[gW];by_cases hc:n>left
    ·rw[if_pos hc];exact hn
    ·rw[if_neg hc];have:=h t (by simp) (left-n) (by omega);exact ihr (fun x hx=>h x (by simp[hx])) _ (by omega)
  rw[kr];exact this l (fun t ht=>ih t ht (h3 t ht)) _ (by omega)
end Rf
namespace Pur
open Go.RowKit
attribute [local go_sem] ξ bV gF cd bI cG jK List.map bB aR get put tmpsOf eY oK kY oa conds ev cond_true cond_false Nat.beq Nat.ble Nat.add quiet fc cW dH zP List.append_eq List.nil_append List.cons_append eX gq gr gu gv gw gx kf jM fQ pC gZ calm quiet.isCallK dU List.getElem?_cons_zero List.getElem?_cons_succ cE dM cellsOf List.all bZ List.length_cons List.length_nil jr bC List.drop List.take List.getD Option.getD_some Eb Ec Cn Ed Ee Ef kZ nY k6 k7 setAt List.set Nat.reduceAdd Nat.reduceMul dy ca refsOf bW cS scalar eJ gO cU eI bA after freeze mT l5 bw fS iN jk iB iV iW gf iX iY jb jc jd je jf jg jh ji jj gg gi gj fR pD bytesOf cf fk a8 cH fN bP cF dV still dk gN eC jH cA iC List.isEmpty gk gm gp Int.reduceToNat Nat.mul_one Nat.reduceSub yx fp ef fl fe look fm strip guarded my iE jq eH jG ek mD iZ ja Bool.or_false Bool.or_true Bool.and_true Bool.and_false Nat.blt iz gI j0 dB idxOf kp l6 o4 gy bA tz
open Rf
theorem Bs:∀(t:Tree),vy 1048576 t→∀left:Int,0≤left→left≤2000→aj ctx 37 [aA t,.int .i64 left] (.int .i64 (eS t left)):=by
 refine Tree.ind fun kd s c a l ih hw left h1 h2=>?_
 cases hw with
 |node _ _ _ _ _ w1 w2 w3 =>
 rw[kr];generalize hr:gW left (1+s.length) l=r;refine af (C:=ctx) (Fn.of I5 rfl) rfl ?_;unfold c37;repeat' (first|((with_reducible first|show aG _|show aM _);simp[vb]<;>omega)|exact(rfl:some _=_)|((fail_if_success refine aT ?_);refine aZ ?_;(repeat1' dsimp only[c37,aA,Tree.kind,Tree.steps,Tree.cell,Tree.pos,Tree.kids,aa,ah,go_sem]);first|refine aU ?_ ?_ rfl ?_|apply aV|apply aW|(refine aX (fun hc=>?_) fun hc=>?_<;>first|(cases hc;done)|(exfalso;simp at hc<;>omega)|(try simp only[bn]at hc;try contradiction))|skip))
 refine cC (σ:=Nat×Int) (fun q=>q.1≤l.length∧gW left q.2 (l.drop q.1)=r∧0≤q.2∧q.2≤left+1048577) (fun q=>[(1,.pv (.int .i64 left)),(2,.ptr 0 0 0),(5,.pv (.int .i64 q.2)),(13,.pv (ah l)),(14,.pv (.int .i64 l.length)),(15,.pv (.int .i64 q.1))]) (fun _=>[ae (.node kd s c a l)]) (fun q=>l.length-q.1) (0,1+s.length) ⟨Nat.zero_le _,hr,by omega,by simp;omega⟩ (by (repeat' (first|exact trivial|refine And.intro (by first|rfl|(simp[get,Nat.beq]<;>omega)|(dsimp only[get];congr 1<;>first|rfl|omega|(simp<;>omega))) ?_))) ⟨[],rfl⟩ (fun _ _=>⟨Nat.zero_le _,rfl,rfl⟩) fun q hP=>?_
 obtain⟨k,n⟩:=q;obtain⟨p1,p2,p3,p4⟩:=hP;simp only at p1 p2 p3 p4;by_cases hlt:k<l.length
 ·have e:=cK l k hlt;have hle:=cL l;have hwx:=w3 _ (aO (d:=zt) hlt);have hx:=ih _ (aO (d:=zt) hlt) hwx (left-n);have hb:=Ae (l.getD k zt) (left-n);have hu:=Dd _ hwx (left-n);have hd:l.drop k=l.getD k zt::l.drop (k+1):=by rw[List.drop_eq_getElem_cons hlt,List.getD,List.getElem?_eq_getElem hlt];rfl
  rw[hd,gW]at p2;clear hd;generalize l.getD k zt=x at *;generalize eS x (left-n)=sx at *;generalize wt x=wx at *;obtain⟨k2,s2,c2,a2,l2⟩:=x;simp only[aA,Tree.kind,Tree.steps,Tree.cell,Tree.pos,Tree.kids]at e hx;by_cases hn:n>left
  ·rw[if_pos hn]at p2;repeat' (first|((with_reducible first|show aG _|show aM _);(try dsimp only[go_sem]);first|(simp[vb,e,hle,hlt,hn,aa,ah]<;>omega)|(simp only[vb,and_true,true_implies];(repeat' (first|(with_reducible assumption)|(with_reducible apply And.intro)|intro _|((fail_if_success (with_reducible show(_:Int)≤_));assumption)))<;>first|omega|(simp only[ab,e,hle,hlt,hn,aa,ah];done)|(simp[e,hle,hlt,hn,aa,ah]<;>omega)))|exact(rfl:some _=_)|((fail_if_success refine aT ?_);refine br [ξ 18 (.agg [.int .i64 k2,aa s2,.int .i64 c2,.int .i64 a2,ah l2])] ?_;(repeat1' dsimp only[c37,ae,Tree.kind,Tree.steps,Tree.cell,Tree.pos,Tree.kids,aa,ah,go_sem]);first|refine aU ?_ ?_ rfl ?_|apply aV|apply aW|(refine aX (fun hc=>?_) fun hc=>?_<;>first|(cases hc;done)|(exfalso;simp[e,hle,hlt,hn,aa,ah]at hc<;>omega)|(try simp only[bn]at hc;try contradiction))|skip))
   rw[p2]
  ·rw[if_neg hn]at p2;have hx:=hx (by omega) (by omega);have hu:=hu (by omega);repeat' (first|((with_reducible first|show aG _|show aM _);(try dsimp only[go_sem]);first|(simp[vb,e,hle,hlt,hn,hx,hb,p3,p4,aa,ah]<;>omega)|(simp only[vb,and_true,true_implies];(repeat' (first|(with_reducible assumption)|(with_reducible apply And.intro)|intro _|((fail_if_success (with_reducible show(_:Int)≤_));assumption)))<;>first|omega|(simp only[ab,e,hle,hlt,hn,hx,hb,p3,p4,aa,ah];done)|(simp[e,hle,hlt,hn,hx,hb,p3,p4,aa,ah]<;>omega)))|exact(rfl:some _=_)|((fail_if_success refine aT ?_);refine bX [(37,fun _=>some (.int .i64 sx))] [ξ 18 (.agg [.int .i64 k2,aa s2,.int .i64 c2,.int .i64 a2,ah l2])] ?_;(repeat1' dsimp only[c37,ae,Tree.kind,Tree.steps,Tree.cell,Tree.pos,Tree.kids,aa,ah,go_sem]);first|refine aU ?_ ?_ rfl ?_|apply aV|apply aW|(refine aX (fun hc=>?_) fun hc=>?_<;>first|(cases hc;done)|(exfalso;simp[e,hle,hlt,hn,hx,hb,p3,p4,aa,ah]at hc<;>omega)|(try simp only[bn]at hc;try contradiction))|skip))
   exact⟨(k+1,n+sx),by show l.length-(k+1)<l.length-k;omega,⟨by show k+1≤_;omega,p2,by show 0≤n+sx;omega,by show n+sx≤_;omega⟩,by (repeat' (first|exact trivial|refine And.intro (by first|rfl|(simp[get,Nat.beq]<;>omega)|(dsimp only[get];congr 1<;>first|rfl|omega|(simp<;>omega))) ?_)),_,rfl⟩
 ·obtain rfl:k=l.length:=by omega
  repeat' (first|((with_reducible first|show aG _|show aM _);simp[vb,hlt]<;>omega)|exact(rfl:some _=_)|((fail_if_success refine aT ?_);refine aZ ?_;(repeat1' dsimp only[c37,ae,Tree.kind,Tree.steps,Tree.cell,Tree.pos,Tree.kids,aa,ah,go_sem]);first|refine aU ?_ ?_ rfl ?_|apply aV|apply aW|(refine aX (fun hc=>?_) fun hc=>?_<;>first|(cases hc;done)|(exfalso;simp[hlt]at hc<;>omega)|(try simp only[bn]at hc;try contradiction))|skip))
  rw[List.drop_length,gW]at p2;rw[p2]
theorem Bt (t:Tree) (hw:vy 1048576 t) (left:Int) (h1:0≤left) (h2:left≤2000):aj ctx 12 [aA t,.int .i64 left] (.bool (decide ((wt t:Int)≤left))):=by
 have hs:=Bs t hw left h1 h2;rw[show decide ((wt t:Int)≤left)=decide (eS t left≤left) from by simp[Br]];generalize eS t left=sz at *;unfold aA at hs;refine af (C:=ctx) (Fn.of I6 rfl) rfl ?_;unfold c12;repeat' (first|((with_reducible first|show aG _|show aM _);(try dsimp only[go_sem]);first|(simp[vb,hs]<;>omega)|(simp only[vb,and_true,true_implies];(repeat' (first|(with_reducible assumption)|(with_reducible apply And.intro)|intro _|((fail_if_success (with_reducible show(_:Int)≤_));assumption)))<;>first|omega|(simp only[ab,hs];done)|(simp[hs]<;>omega)))|exact(rfl:some _=_)|((fail_if_success refine aT ?_);refine fu [(37,fun _=>some (.int .i64 sz))] ?_;(repeat1' dsimp only[c12,aA,go_sem]);first|refine aU ?_ ?_ rfl ?_|apply aV|apply aW|(refine aX (fun hc=>?_) fun hc=>?_<;>first|(cases hc;done)|(exfalso;simp[hs]at hc<;>omega)|(try simp only[bn]at hc;try contradiction))|skip))
end Pur
end
section
namespace Rf
open Pur (aL)
structure Rg where
 lo:Int
 hi:Int
 deriving DecidableEq
structure Tm where
 cell:Int
 fac:Int
 deriving DecidableEq
structure Rw where
 terms:List Tm
 bound:Int
 deriving DecidableEq
structure Gr where
 first:Int
 size:Int
 least:List Int
 deriving DecidableEq
structure Sy where
 box:List Rg
 rows:List Rw
 graphs:List Gr
 cases:List (List Rw)
def zr:Rg:=⟨0,0⟩
def zm:Tm:=⟨0,0⟩
def zw:Rw:=⟨[],0⟩
def zg:Gr:=⟨0,0,[]⟩
def mc (r:Rg):Bool:=aL r.lo (-1000000) 1000000&&aL r.hi (-1000000) 1000000
def cz (b:List Rg):Bool:=b.all mc&&decide (b.length≤128)
def dF (n:Int):Int→List Tm→Bool
 |_,[]=>true
 |last,t::r=>(decide (last<t.cell)&&decide (t.cell<n)&&decide (t.fac≠0)&&aL t.fac (-1000) 1000)&&dF n t.cell r
def gA (n:Int) (r:Rw):Bool:=dF n (-1) r.terms&&aL r.bound (-1000000000) 1000000000
def eA (b:List Rg) (l:List Rw):Bool:=cz b&&l.all (gA b.length)
def dX (r:Rg):Bool:=decide (r.hi<r.lo)
def dt (b:List Rg):Bool:=b.any dX
def eO (k:Int):Bool:=aL k (-4000000) 4000000
def bH (n:Int) (g:Gr):Bool:=aL g.size 1 6&&decide (0≤g.first)&&decide (g.first≤n-g.size*g.size)&&decide ((g.least.length:Int)=g.size*g.size)&&g.least.all eO
def fD (b:List Rg) (l:List Rw):Bool:=decide (l.length≤64)&&eA b l
def im (s:Sy):Bool:=eA s.box s.rows&& !dt s.box&&decide (s.rows.length≤1024)&&decide (s.graphs.length≤64)&&decide (s.cases.length≤1024)&&s.graphs.all (bH s.box.length)&&s.cases.all (fD s.box)
def y6 (b:List Rg) (t:Tm):Int:=if 0<t.fac then t.fac*(b.getD t.cell.toNat zr).lo else t.fac*(b.getD t.cell.toNat zr).hi
def eF (b:List Rg) (cell:Int):List Tm→Int
 |[]=>0
 |t::r=>(if t.cell=cell then 0 else y6 b t)+eF b cell r
def kP (cell:Int):List Tm→Int
 |[]=>0
 |t::r=>if t.cell=cell then t.fac else kP cell r
def fF (r:Rw) (b:List Rg) (c:Int):Rg :=
 let x:=b.getD c.toNat zr
 let f:=kP c r.terms
 let rest:=r.bound-eF b c r.terms
 if f=0 then x else
 let y:Rg:=if 0<f then ⟨x.lo,min x.hi (rest / f)⟩ else ⟨max x.lo (-(rest / -f)),x.hi⟩
 if y.hi<y.lo then ⟨1,0⟩ else y
def dS (r:Rw) (b:List Rg) (c:Int):Rg:=if eA b [r]=true∧0≤c∧c<b.length then fF r b c else zr
inductive Reach (n:Nat) (e:Nat→Nat→Bool) (a:Nat):Nat→Prop
 |here:Reach n e a a
 |step {b c:Nat}:Reach n e a b→c<n→e b c=true→Reach n e a c
def di (g:Gr) (b:List Rg):List Bool:=(List.range g.least.length).map fun j=>decide (g.least.getD j 0≤(b.getD (g.first.toNat+j) zr).lo)
def bL (n:Nat) (l:List Bool) (u v:Nat):Bool:=l.getD (u*n+v) false
open Classical in
noncomputable def y7 (n:Nat) (l:List Bool) (u v:Nat):Bool:=decide (Reach n (bL n l) u v)
noncomputable def jm (g:Gr) (b:List Rg) (k:Nat):Bool:=y7 g.size.toNat (di g b) (k % g.size.toNat) (k / g.size.toNat)
noncomputable def tG (g:Gr) (b:List Rg) (k:Nat):Rg :=
 let x:=b.getD (g.first.toNat+k) zr
 if jm g b k then ⟨x.lo,min x.hi (g.least.getD k 0-1)⟩ else x
noncomputable def b8 (s:Sy) (rows:List Rw) (b:List Rg) (x:aS):List Rg×Bool×Bool :=
 if x.kind=1 then
  if x.index<s.graphs.length then
   let g:=s.graphs.getD x.index.toNat zg
   if g.first≤x.cell∧x.cell<g.first+g.least.length then
    let y:=tG g b (x.cell-g.first).toNat
    (b.set x.cell.toNat y,true,dX y)
   else (b,false,false)
  else (b,false,false)
 else
  if x.index<rows.length∧x.cell<b.length then
   let r:=rows.getD x.index.toNat zw
   if x.cell<0 then (b,r.terms.isEmpty&&decide (r.bound<0),r.terms.isEmpty&&decide (r.bound<0))
   else
    let y:=dS r b x.cell
    (b.set x.cell.toNat y,true,dX y)
  else (b,false,false)
noncomputable def eP (s:Sy) (rows:List Rw):List aS→List Rg→Except Bool (List Rg)
 |[],b=>.ok b
 |x::l,b=>match b8 s rows b x with
  |(b',p,c)=>if c then .error true else if p then eP s rows l b' else .error false
def Acc:=List Rw→List Rg→Bool→Bool
def np (rows:List Rw) (b:List Rg):List Acc→List (List Rw)→Bool
 |f::r,c::cs=>f (rows++c) b true&&np rows b r cs
 |_,_=>true
def nU (s:Sy) (k c a:Int) (l:List Acc) (rows:List Rw) (b:List Rg) (ch:Bool):Bool :=
 if k=1 then
  if c<b.length then
   let x:=b.getD c.toNat zr
   match l with
   |f::g::_=>f rows (b.set c.toNat ⟨x.lo,min x.hi a⟩) ch&&g rows (b.set c.toNat ⟨max x.lo (a+1),x.hi⟩) ch
   |_=>false
  else false
 else if k=2 then
  !ch&&decide (l.length=s.cases.length)&&np rows b l s.cases
 else false
noncomputable def bf (s:Sy):Tree→Acc
 | .node k st c a l=>fun rows b ch =>
  if dt b then true else
  match eP s rows st b with
  | .error r=>r
  | .ok b'=>nU s k c a (l.attach.map fun x=>bf s x.1) rows b' ch
decreasing_by
 have:=List.sizeOf_lt_of_mem x.2;simp;omega
theorem pf (s:Sy) (k:Int) (st:List aS) (c a:Int) (l:List Tree) (rows:List Rw) (b:List Rg) (ch:Bool):bf s (.node k st c a l) rows b ch =
  if dt b then true else match eP s rows st b with
  | .error r=>r
  | .ok b'=>nU s k c a (l.map (bf s)) rows b' ch:=by
 rw[bf];simp only[List.attach_map_subtype_val,List.map_attach_eq_pmap,List.pmap_eq_map]
noncomputable def k8 (s:Sy) (t:Tree):Bool:=im s&&eV t&&bf s t s.rows s.box false
theorem p9 (s:Sy) (rows:List Rw) (b:List Rg) (x:aS):(b8 s rows b x).1.length=b.length:=by
 unfold b8;dsimp only;(repeat' split)<;>simp
end Rf
namespace Pur
open Rf
def fW (r:Rg):List PV:=[.int .i64 r.lo,.int .i64 r.hi]
def ai (b:List Rg):PV:=.sl b.length (b.flatMap fW)
def j5 (t:Tm):List PV:=[.int .i64 t.cell,.int .i64 t.fac]
def av (l:List Tm):PV:=.sl l.length (l.flatMap j5)
def dI (r:Rw):List PV:=[av r.terms,.int .i64 r.bound]
def ax (l:List Rw):PV:=.sl l.length (l.flatMap dI)
def bO (n:Int):List PV:=[.int .i64 n]
def an (l:List Int):PV:=.sl l.length (l.flatMap bO)
def dG (n:Bool):List PV:=[.bool n]
def bF (l:List Bool):PV:=.sl l.length (l.flatMap dG)
def dx (g:Gr):List PV:=[.int .i64 g.first,.int .i64 g.size,an g.least]
def aI (l:List Gr):PV:=.sl l.length (l.flatMap dx)
def sE (l:List Rw):List PV:=[ax l]
def aC (l:List (List Rw)):PV:=.sl l.length (l.flatMap sE)
theorem iq (x:Rg):(fW x).length=2:=rfl
theorem me (x:Tm):(j5 x).length=2:=rfl
theorem kQ (x:Rw):(dI x).length=2:=rfl
theorem De (x:Int):(bO x).length=1:=rfl
theorem Bu (x:Bool):(dG x).length=1:=rfl
theorem ph (x:Gr):(dx x).length=3:=rfl
theorem xj (x:List Rw):(sE x).length=1:=rfl
theorem bN (l:List Rg):(l.flatMap fW).length=l.length*2:=cg iq l
theorem gX (l:List Tm):(l.flatMap j5).length=l.length*2:=cg me l
theorem fL (l:List Rw):(l.flatMap dI).length=l.length*2:=cg kQ l
theorem dj (l:List Int):(l.flatMap bO).length=l.length*1:=cg De l
theorem eT (l:List Bool):(l.flatMap dG).length=l.length*1:=cg Bu l
theorem ra (l:List Gr):(l.flatMap dx).length=l.length*3:=cg ph l
theorem mf (l:List (List Rw)):(l.flatMap sE).length=l.length*1:=cg xj l
end Pur
end
section
namespace Rf
def qa (e:Nat→Nat→Bool) (l:List Int) (u:Nat) (s:List (List Int)×List Bool) (b:Nat):List (List Int)×List Bool :=
 if e u b=true∧s.2.getD b true=false then (s.1++[l++[(b:Int)]],s.2.set b true) else s
def mg (n:Nat) (e:Nat→Nat→Bool) (l:List Int) (u:Nat) (q:List (List Int)) (seen:List Bool):List (List Int)×List Bool:=(List.range n).foldl (qa e l u) (q,seen)
def cM (l:List Int):Nat:=(l.getLastD 0).toNat
def pj (n:Nat) (e:Nat→Nat→Bool) (tg:Nat):Nat→List (List Int)→List Bool→List Int
 |0,_,_=>[]
 |_+1,[],_=>[]
 |f+1,l::r,seen=>if cM l=tg then l else pj n e tg f (mg n e l (cM l) (l::r) seen).1.tail (mg n e l (cM l) (l::r) seen).2
def dY:List Bool→Nat
 |[]=>0
 |b::r=>(if b then 0 else 1)+dY r
theorem ku:∀(s:List Bool) (b:Nat),s.getD b true=false→dY (s.set b true)+1=dY s
 |[],b,h=>by simp at h
 |x::r,0,h=>by
  simp at h;subst h;simp[dY];omega
 |x::r,b+1,h=>by
  have:=ku r b (by simpa using h);simp only[List.set_cons_succ,dY];omega
theorem oE:∀s:List Bool,dY s≤s.length
 |[]=>by simp[dY]
 |b::r=>by have:=oE r;simp only[dY,List.length_cons];split<;>omega
theorem ui (k:Nat) (e:Nat→Nat→Bool) (l:List Int) (u:Nat) (q:List (List Int)) (seen:List Bool):mg (k+1) e l u q seen=qa e l u (mg k e l u q seen) k:=by
 rw[mg,List.range_succ,List.foldl_append];rfl
structure GU (n:Nat) (e:Nat→Nat→Bool) (fr:Nat) (q:List (List Int)) (seen:List Bool):Prop where
 len:seen.length=n
 ne:∀l∈q,l≠[]∧0≤l.getLastD 0∧cM l<n∧seen.getD (cM l) false=true∧l.length+dY seen≤n+1
 sr:∀v,seen.getD v false=true→Reach n e fr v
theorem gB (s:List Bool) (b v:Nat) (d:Bool) (hb:b<s.length):(s.set b true).getD v d=if v=b then true else s.getD v d:=by
 rw[List.getD,List.getD];by_cases h:b=v
 ·subst h;simp[hb]
 ·rw[List.getElem?_set_ne h,if_neg (Ne.symm h)]
theorem EO {s:List Bool} {b:Nat} (h:s.getD b true=false):b<s.length:=by
 apply Classical.byContradiction;intro hn;rw[List.getD,List.getElem?_eq_none (by omega)]at h;cases h
theorem qb (l:List Int) (b:Nat):cM (l++[(b:Int)])=b∧0≤(l++[(b:Int)]).getLastD 0:=by
 simp[cM]
theorem Df {n:Nat} {e:Nat→Nat→Bool} {fr:Nat} {q:List (List Int)} {seen:List Bool} {l:List Int} (h:GU n e fr q seen) (hl:l∈q) (b:Nat) (hb:b<n) :
  GU n e fr (qa e l (cM l) (q,seen) b).1 (qa e l (cM l) (q,seen) b).2∧(qa e l (cM l) (q,seen) b).1.length+dY (qa e l (cM l) (q,seen) b).2=q.length+dY seen∧(∃m,(qa e l (cM l) (q,seen) b).1=q++m) ∧
  (e (cM l) b=true→(qa e l (cM l) (q,seen) b).2.getD b false=true)∧(∀v,seen.getD v false=true→(qa e l (cM l) (q,seen) b).2.getD v false=true) ∧
  (∀v,(qa e l (cM l) (q,seen) b).2.getD v false=true→seen.getD v false=true∨∃x∈(qa e l (cM l) (q,seen) b).1,cM x=v):=by
 unfold qa;split
 ·rename_i hc;obtain⟨h1,h2⟩:=hc;have hlt:=EO h2;have hu:=ku seen b h2;obtain⟨g1,g2,g3,g4,g5⟩:=h.ne l hl;refine⟨⟨by simp[h.len],fun x hx=>?_,fun v hv=>?_⟩,by simp;omega,⟨_,rfl⟩,fun _=>by simp only;rw[gB _ _ _ _ hlt,if_pos rfl],fun v hv=>by simp only;rw[gB _ _ _ _ hlt];split<;>simp_all,fun v hv=>?_⟩
  ·rcases List.mem_append.mp hx with hx|hx
   ·obtain⟨q1,q2,q3,q4,q5⟩:=h.ne x hx;exact⟨q1,q2,q3,by simp only;rw[gB _ _ _ _ hlt];split<;>simp_all,by simp only;omega⟩
   ·simp only[List.mem_singleton]at hx;subst hx;obtain⟨e1,e2⟩:=qb l b;refine⟨by simp,e2,by rw[e1];exact hb,by simp only;rw[e1,gB _ _ _ _ hlt,if_pos rfl],by simp;omega⟩
  ·simp only at hv;rw[gB _ _ _ _ hlt]at hv;split at hv
   ·rename_i hvb;subst hvb;exact .step (h.sr _ g4) hb h1
   ·exact h.sr v hv
  ·simp only at hv ⊢;rw[gB _ _ _ _ hlt]at hv;split at hv
   ·rename_i hvb;exact .inr ⟨l++[(b:Int)],by simp,by rw[(qb l b).1,hvb]⟩
   ·exact .inl hv
 ·rename_i hc;refine⟨h,rfl,⟨[],(List.append_nil _).symm⟩,fun h1=>?_,fun v hv=>hv,fun v hv=>.inl hv⟩;have:seen.getD b true=true:=by
   cases hs:seen.getD b true with
   |true=>rfl
   |false=>exact absurd ⟨h1,hs⟩ hc
  have hlt:b<seen.length:=by rw[h.len];exact hb
  simp only[List.getD,List.getElem?_eq_getElem hlt,Option.getD_some]at this ⊢;exact this
theorem sF {n:Nat} {e:Nat→Nat→Bool} {fr:Nat} {q:List (List Int)} {seen:List Bool} {l:List Int} (h:GU n e fr q seen) (hl:l∈q):∀(k:Nat),k≤n →
  GU n e fr (mg k e l (cM l) q seen).1 (mg k e l (cM l) q seen).2∧(mg k e l (cM l) q seen).1.length+dY (mg k e l (cM l) q seen).2=q.length+dY seen∧(∃m,(mg k e l (cM l) q seen).1=q++m) ∧
  (∀b,b<k→e (cM l) b=true→(mg k e l (cM l) q seen).2.getD b false=true)∧(∀v,seen.getD v false=true→(mg k e l (cM l) q seen).2.getD v false=true) ∧
  (∀v,(mg k e l (cM l) q seen).2.getD v false=true→seen.getD v false=true∨∃x∈(mg k e l (cM l) q seen).1,cM x=v)
 |0,_=>⟨h,rfl,⟨[],(List.append_nil _).symm⟩,fun b hb=>absurd hb (Nat.not_lt_zero _),fun v hv=>hv,fun v hv=>.inl hv⟩
 |k+1,hk=>by
  obtain⟨h1,h2,⟨m,h3⟩,h4,h5,h6⟩:=sF h hl k (by omega);rw[ui];generalize mg k e l (cM l) q seen=s at *;obtain⟨q1,s1⟩:=s;simp only at *;obtain⟨g1,g2,⟨m2,g3⟩,g4,g5,g6⟩:=Df h1 (l:=l) (by rw[h3];exact List.mem_append_left _ hl) k (by omega);refine⟨g1,by omega,⟨m++m2,by rw[g3,h3,List.append_assoc]⟩,fun b hb he=>?_,fun v hv=>g5 v (h5 v hv),fun v hv=>?_⟩
  ·by_cases hbk:b=k
   ·subst hbk;exact g4 he
   ·exact g5 b (h4 b (by omega) he)
  ·rcases g6 v hv with h|h
   ·rcases h6 v h with h|⟨x,hx,e⟩
    ·exact .inl h
    ·exact .inr ⟨x,by rw[g3];exact List.mem_append_left _ hx,e⟩
   ·exact .inr h
theorem uj {n:Nat} {e:Nat→Nat→Bool} {fr tg:Nat}:∀(f:Nat) (q:List (List Int)) (seen:List Bool),GU n e fr q seen→q.length+dY seen<f→seen.getD fr false=true →
  (∀v,seen.getD v false=true→(∃l∈q,cM l=v)∨(v≠tg∧∀w,w<n→e v w=true→seen.getD w false=true))→(pj n e tg f q seen≠[]↔Reach n e fr tg)
 |0,_,_,_,h,_,_=>by omega
 |f+1,[],seen,h,_,h2,h3=>by
  rw[pj];refine⟨fun h=>absurd rfl h,fun hr=>?_⟩;have cl:∀v,Reach n e fr v→seen.getD v false=true:=fun v hv=>by
   induction hv with
   |here=>exact h2
   |step _ hlt he ih =>
    rcases h3 _ ih with⟨l,hl,_⟩|⟨_,g⟩
    ·cases hl
    ·exact g _ hlt he
  rcases h3 _ (cl _ hr) with⟨l,hl,_⟩|⟨g,_⟩
  ·cases hl
  ·exact absurd rfl g
 |f+1,l::r,seen,h,hm,h2,h3=>by
  obtain⟨p1,p2,p3,p4,p5⟩:=h.ne l (by simp);rw[pj];split
  ·rename_i hl;exact⟨fun _=>hl▸h.sr _ p4,fun _=>p1⟩
  ·rename_i hl;obtain⟨g1,g2,⟨m,g3⟩,g4,g5,g6⟩:=sF h (l:=l) (by simp) n (Nat.le_refl _);generalize mg n e l (cM l) (l::r) seen=s at *;obtain⟨q1,s1⟩:=s;simp only at *;subst g3;simp only[List.cons_append,List.tail_cons];refine uj f (r++m) s1 ⟨g1.len,fun x hx=>g1.ne x (by simp only[List.cons_append,List.mem_cons];exact .inr hx),g1.sr⟩ ?_ (g5 _ h2) fun v hv=>?_
   ·simp at g2 hm ⊢;omega
   ·have fin:(∃x∈l::r++m,cM x=v)→(∃x∈r++m,cM x=v)∨(v≠tg∧∀w,w<n→e v w=true→s1.getD w false=true):=fun ⟨x,hx,ex⟩=>by
     rcases List.mem_cons.mp (by simpa using hx:x∈l::(r++m)) with rfl|hx
     ·exact .inr ⟨fun hv=>hl (by rw[ex,hv]),fun w hw he=>g4 w hw (by rw[ex];exact he)⟩
     ·exact .inl ⟨x,hx,ex⟩
    rcases g6 v hv with hs|hs
    ·rcases h3 v hs with⟨x,hx,ex⟩|⟨q1,q2⟩
     ·exact fin ⟨x,by simp only[List.cons_append,List.mem_cons,List.mem_append];rcases List.mem_cons.mp hx with h|h;exact .inl h;exact .inr (.inl h),ex⟩
     ·exact .inr ⟨q1,fun w hw he=>g5 w (q2 w hw he)⟩
    ·exact fin hs
def jB (n fr:Nat):List Bool:=(List.replicate n false).set fr true
theorem uk {n:Nat} {e:Nat→Nat→Bool} {fr:Nat} (hf:fr<n):GU n e fr [[(fr:Int)]] (jB n fr):=by
 have hlt:fr<(List.replicate n false).length:=by simpa using hf
 have hz:∀v,(List.replicate n false).getD v false=false:=fun v=>by
  rw[List.getD,List.getElem?_replicate];split<;>rfl
 refine⟨by simp[jB],fun l hl=>?_,fun v hv=>?_⟩
 ·simp only[List.mem_singleton]at hl;subst hl;have hu:=ku (List.replicate n false) fr (by rw[List.getD,List.getElem?_replicate,if_pos hf];rfl);have:=oE (List.replicate n false);rw[List.length_replicate]at this;refine⟨by simp,by simp,by simpa [cM]using hf,by rw[jB,gB _ _ _ _ hlt,if_pos (by simp[cM])],by simp only[List.length_singleton,jB];omega⟩
 ·rw[jB,gB _ _ _ _ hlt]at hv;split at hv
  ·rename_i h;rw[h];exact .here
  ·rw[hz]at hv;cases hv
theorem GV {n:Nat} {e:Nat→Nat→Bool} {fr tg:Nat} (hf:fr<n):pj n e tg (n+2) [[(fr:Int)]] (jB n fr)≠[]↔Reach n e fr tg:=by
 have hlt:fr<(List.replicate n false).length:=by simpa using hf
 have hu:=ku (List.replicate n false) fr (by rw[List.getD,List.getElem?_replicate,if_pos hf];rfl);have:=oE (List.replicate n false);rw[List.length_replicate]at this;refine uj (n+2) _ _ (uk hf) ?_ (by rw[jB,gB _ _ _ _ hlt,if_pos rfl]) fun v hv=>?_
 ·simp only[List.length_singleton,jB];omega
 ·rw[jB,gB _ _ _ _ hlt]at hv;split at hv
  ·rename_i h;exact .inl ⟨_,List.mem_singleton.mpr rfl,by simp[cM,h]⟩
  ·rw[List.getD,List.getElem?_replicate]at hv;split at hv<;>cases hv
end Rf
end
section
namespace Rf
def xm (w:List UInt8):Option Int:=match Lib.atoiAll w with
 | .ok n=>some n
 |_=>none
def fO:List (List UInt8)→Option (List Int)
 |[]=>some []
 |w::r=>match xm w,fO r with
  |some n,some l=>some (n::l)
  |_,_=>none
theorem pn (a b:List (List UInt8)):fO (a++b)=match fO a,fO b with
  |some x,some y=>some (x++y)
  |_,_=>none:=by
 induction a with
 |nil=>simp only[List.nil_append,fO];cases fO b<;>rfl
 |cons w r ih =>
  simp only[List.cons_append,fO,ih];cases xm w<;>cases fO r<;>cases fO b<;>rfl
theorem qc:∀(l:List (List UInt8)) (ns:List Int),fO l=some ns→ns.length=l.length
 |[],ns,h=>by simp[fO]at h;subst h;rfl
 |w::r,ns,h=>by
  simp only[fO]at h;cases hw:xm w with
  |none=>rw[hw]at h;cases h
  |some n =>
   cases hr:fO r with
   |none=>rw[hw,hr]at h;cases h
   |some l =>
    rw[hw,hr]at h;injection h with h
    subst h;simp[qc r l hr]
def nq (x:List UInt8):Option (List UInt8×List Int):=match mF 32 x with
 |h::t=>match fO t with
  |some ns=>some (h,ns)
  |none=>none
 |[]=>none
end Rf
namespace Pur
open Go.RowKit
attribute [local go_sem] ξ bV gF cd bI cG jK List.map bB aR get put tmpsOf eY oK kY oa conds ev cond_true cond_false Nat.beq Nat.ble Nat.add quiet fc cW dH zP List.append_eq List.nil_append List.cons_append eX gq gr gu gv gw gx kf jM fQ pC gZ calm quiet.isCallK dU List.getElem?_cons_zero List.getElem?_cons_succ cE dM cellsOf List.all bZ List.length_cons List.length_nil jr bC List.drop List.take List.getD Option.getD_some Eb Ec Cn Ed Ee Ef kZ nY k6 k7 setAt List.set Nat.reduceAdd Nat.reduceMul dy ca refsOf bW cS scalar eJ gO cU eI bA after freeze mT l5 bw fS iN jk iB iV iW gf iX iY jb jc jd je jf jg jh ji jj gg gi gj fR pD bytesOf cf fk a8 cH fN bP cF dV still dk gN eC jH cA iC List.isEmpty gk gm gp Int.reduceToNat Nat.mul_one Nat.reduceSub yx fp ef fl fe look fm strip guarded my iE jq eH jG ek mD iZ ja Bool.or_false Bool.or_true Bool.and_true Bool.and_false Nat.blt iz gI j0 dB idxOf kp l6 o4 gy bA tz
open Rf
def aF (ls:List (List UInt8)):dT:=⟨[.pv (dq ls)],0,1,89,false⟩
def cY:List Int→PV
 |[]=>.nilsl
 |n::r=>.sl (r.length+1) ((n::r).map (.int .i64))
def tk:List Int→AV
 |[]=>.pv .nilsl
 |_::r=>.ref 1 r.length 0 (r.length+1)
def um:List Int→AM
 |[]=>[]
 |n::r=>[⟨(n::r).map fun x=>.pv (.int .i64 x),r.length,1,3,false⟩]
theorem Dg (n:Int) (r:List Int):tk (n::r)= .ref 1 r.length 0 (r.length+1):=rfl
theorem Dh (n:Int) (r:List Int):um (n::r)=[⟨(n::r).map fun x=>.pv (.int .i64 x),r.length,1,3,false⟩]:=rfl
def Iw:ay:=(⟨_,by conv=>(lhs;reduce;try simp only[cJ,Int.cast_ofNat_Int,Int.reduceNegSucc,UInt8.reduceOfNat])⟩:{x // codeOf Tryz.prog 57 (fun _=>false)=some x}).1
theorem GW:bp Tryz.prog 57 (fun _=>false)=some (Iw,[.t 2,.t 3],58,true):=by kernel_rfl
theorem Di:eQ ctx 57 [.ptr 0 0 0] [aF []] cw (fun μ=>μ=[aF []]):=by
 refine nc (C:=ctx) (Fn.of GW rfl) rfl ?_;unfold Iw;iterate 6 first
  |refine⟨fun _=>?_,fun h=>by simp at h<;>omega⟩
  |refine⟨by simp[vb]<;>omega,by simp[vb]<;>omega,?_⟩
  |(refine aZ ?_;iterate 2 (try dsimp only[aF,dq,go_sem]))
 refine fT 2 true [] ?_;simp only[iF,List.take_succ_cons,List.take_zero,List.getElem?_cons_succ,List.getElem?_cons_zero,go_sem,jz];exact⟨by simp[aG],trivial,rfl,_,[],(List.append_nil _).symm,Nat.le_refl _,rfl,rfl⟩
theorem Af (r:List (List UInt8)):AV.pv (.sl ((r.length+1:Nat)-1:Int).toNat ((r.map PV.str).take (((r.length+1:Nat)-1:Int).toNat*1)))= .pv (.sl r.length (r.map .str)):=by
 rw[show((r.length+1:Nat)-1:Int).toNat=r.length by omega,Nat.mul_one,List.take_of_length_le (by simp)]
def GX:ay:=(⟨_,by conv=>(lhs;reduce;try simp only[cJ,Int.cast_ofNat_Int,Int.reduceNegSucc,UInt8.reduceOfNat])⟩:{x // (codeOf Tryz.prog 57 (fun _=>false)).map (fun y=>y.sub [1,1,1,1,1])=some x}).1
theorem uo (x:List UInt8) (r:List (List UInt8)) (h:List UInt8) (t:List (List UInt8)) (hs:mF 32 x=h::t) (hx:x.length≤1000000) (hr:r.length≤1000000) {R:Exit→AF→AM→Prop} {m:Nat}
  (hk:Aw ctx (fun _=>false) 58 m GX R [(5,.pv .nilsl),(4,.pv (.sl (t.length+1) ((h::t).map .str)))] [aF r]):Aw ctx (fun _=>false) 58 m Iw R [(0,.ptr 0 0 0)] [aF (x::r)]:=by
 have h1:=w9 32 x (by omega);rw[hs]at h1;unfold Iw;iterate 7 first
  |refine⟨fun h=>by simp at h<;>omega,fun _=>?_⟩
  |refine⟨by simp[vb]<;>omega,by simp[vb]<;>omega,?_⟩
  |(refine bX [(55,fun _=>some (fU (h::t)))] [ξ 23 (.str x)] ?_;iterate 2 (try dsimp only[aF,dq,fU,go_sem]))
 refine bX [(55,fun _=>some (fU (h::t)))] [ξ 23 (.str x)] ?_;dsimp only[aF,dq,fU,go_sem];try dsimp only[aF,dq,fU,go_sem]
 refine⟨(by simp[vb]<;>omega),?_,?_⟩
 ·exact⟨h1,rfl,trivial⟩
 refine br [ξ 30 (dq r)] ?_;dsimp only[aF,dq,fU,go_sem];try dsimp only[aF,dq,fU,go_sem]
 refine⟨(by simp[vb]<;>omega),?_,?_⟩
 ·exact⟨Af r,trivial⟩
 refine aZ ?_;dsimp only[aF,dq,fU,go_sem];try dsimp only[aF,dq,fU,go_sem]
 refine⟨(by simp[vb]<;>omega),(by simp[vb]<;>omega),?_⟩;exact bz _ (by (repeat' (first|exact trivial|refine And.intro (by first|rfl|(simp[get,Nat.beq]<;>omega)|(dsimp only[get];congr 1<;>first|rfl|omega|(simp<;>omega))) ?_))) hk
def HJ:ay:=(⟨_,by conv=>(lhs;reduce;try simp only[cJ,Int.cast_ofNat_Int,Int.reduceNegSucc,UInt8.reduceOfNat])⟩:{x // (codeOf Tryz.prog 57 (fun _=>false)).map (fun y=>y.sub [1,1,1,1,1,1])=some x}).1
theorem uq (r ws:List (List UInt8)) (hws:ws.length≤1000000) (hwl:∀w∈ws,w.length≤1000000) (h:List UInt8) {R:Exit→AF→AM→Prop}
  (hgood:∀ns f,fO ws=some ns→Sub [(4,.pv (.sl (ws.length+1) ((h::ws).map .str))),(5,tk ns)] f→Aw ctx (fun _=>false) 58 1 HJ R f ([aF r]++um ns))
  (hbad:fO ws=none→∀f μ,R (.panic cw) f ([aF r]++μ)) :
  Aw ctx (fun _=>false) 58 1 GX R [(5,.pv .nilsl),(4,.pv (.sl (ws.length+1) ((h::ws).map .str)))] [aF r]:=by
 unfold GX;refine br [ξ 34 (dq ws)] ?_;dsimp only[aF,dq,fU,go_sem];try dsimp only[aF,dq,fU,go_sem]
 refine⟨(by simp[vb]<;>omega),?_,?_⟩
 ·exact⟨Af ws,trivial⟩
 refine bS ?_;refine cC (fun s:List Int×List (List UInt8)=>∃done,ws=done++s.2∧fO done=some s.1)
  (fun s=>[(4,.pv (.sl (ws.length+1) ((h::ws).map .str))),(5,tk s.1),(34,.pv (.sl ws.length (ws.map .str))),(35,.pv (.int .i64 ws.length)),(36,.pv (.int .i64 s.1.length))]) (fun s=>[aF r]++um s.1) (fun s=>s.2.length) ([],ws) ⟨[],rfl,rfl⟩ (by (repeat' (first|exact trivial|refine And.intro (by first|rfl|(simp[get,Nat.beq,tk]<;>omega)|(dsimp only[get];congr 1<;>first|rfl|omega|(simp<;>omega))) ?_))) ⟨[],rfl⟩ (fun s _=>?_) fun s hs=>?_
 ·obtain⟨ns,rest⟩:=s;cases ns with
  |nil=>exact⟨by simp,rfl,rfl⟩
  |cons n l=>exact⟨by simp,rfl,by simp[um,aP,aF,ck]⟩
 obtain⟨ns,rest⟩:=s;obtain⟨done,hd,hn⟩:=hs;simp only at hd hn;have hnl:=qc _ _ hn;have hwn:ws.length=done.length+rest.length:=by rw[hd,List.length_append]
 cases rest with
 |nil =>
  simp only[List.append_nil]at hd;subst hd;simp only;refine aZ ?_;dsimp only[dq,go_sem];try dsimp only[dq,go_sem]
  refine⟨(by simp[vb,hnl]<;>omega),(by simp[vb,hnl]<;>omega),?_⟩;refine bJ ?_;refine aZ ?_;dsimp only[go_sem];refine⟨fun hc=>?_,fun hc=>?_⟩
  ·simp at hc;omega
  refine aZ ?_;dsimp only[go_sem];exact hgood ns _ hn (by (repeat' (first|exact trivial|refine And.intro (by first|rfl|(simp[get,Nat.beq]<;>omega)|(dsimp only[get];congr 1<;>first|rfl|omega|(simp<;>omega))) ?_)))
 |cons wd rest =>
  have hwd:=hwl wd (by rw[hd];simp);have e:(ws.map PV.str)[ns.length]?=some (.str wd):=by rw[hd,List.getElem?_map,hnl,List.getElem?_append_right (Nat.le_refl _),Nat.sub_self];rfl
  simp only[List.length_cons]at hwn;have hat:=EJ wd (by omega);simp only;iterate 5 first
   |refine⟨fun _=>?_,fun h=>by simp at h<;>omega⟩
   |refine⟨by simp[vb,hnl,e]<;>omega,by simp[vb,hnl,e]<;>omega,?_⟩
   |(refine br [ξ 39 (.str wd)] ?_;iterate 2 (try dsimp only[dq,go_sem]))
  refine br [ξ 39 (.str wd)] ?_;dsimp only[dq,go_sem];try dsimp only[dq,go_sem]
  refine⟨(by simp[vb,hnl,e]<;>omega),?_,?_⟩
  ·simp only[Int.toNat_natCast,Nat.mul_one,e];exact⟨rfl,trivial⟩
  have bad:xm wd=none→(∃v,pe wd= .tup [.int .i64 v,.iface])→fO ws=none:=fun h1 _=>by
   rw[hd,pn,hn];simp only[fO,h1]
  cases ha:Lib.atoiAll wd with
  |ok n =>
   have hP:pe wd= .tup [.int .i64 n,.val .nilIface]:=by unfold pe;rw[ha]
   have hN:xm wd=some n:=by unfold xm;rw[ha]
   rw[hP]at hat;have hdone:fO (done++[wd])=some (ns++[n]):=by rw[pn,hn];simp[fO,hN]
   refine fu [(88,fun _=>some (.tup [.int .i64 n,.val .nilIface]))] ?_;dsimp only[dq,go_sem];try dsimp only[dq,go_sem]
   refine⟨(by simp[vb]<;>omega),?_,?_⟩
   ·exact⟨hat,trivial⟩
   cases ns with
   |nil =>
    iterate 9 first
     |refine⟨fun h=>by simp at h<;>omega,fun _=>?_⟩
     |refine⟨by simp[vb]<;>omega,by simp[vb]<;>omega,?_⟩
     |(refine aZ ?_;iterate 2 (try dsimp only[tk,um,go_sem]))
    exact⟨([n],rest),by simp,⟨done++[wd],by rw[hd];simp,hdone⟩,by (repeat' (first|exact trivial|refine And.intro (by first|rfl|(simp[get,Nat.beq,tk]<;>omega)|(dsimp only[get];congr 1<;>first|rfl|omega|(simp<;>omega))) ?_)),[],rfl⟩
   |cons n0 l =>
    simp only[List.length_cons]at hnl;iterate 9 first
     |refine⟨fun h=>by simp at h<;>omega,fun _=>?_⟩
     |refine⟨by simp[vb,hnl]<;>omega,by simp[vb,hnl]<;>omega,?_⟩
     |(refine aZ ?_;iterate 2 (try dsimp only[tk,um,go_sem]))
    refine⟨(n0::(l++[n]),rest),by simp,⟨done++[wd],by rw[hd];simp,hdone⟩,?_,[],by simp[um]⟩;simp only[tk];(repeat' (first|exact trivial|refine And.intro (by first|rfl|(simp[get,Nat.beq,tk]<;>omega)|(dsimp only[get];congr 1<;>first|rfl|omega|(simp<;>omega))) ?_))
  |range =>
   have hP:pe wd= .tup [.int .i64 (Lib.atoiSat wd),.iface]:=by unfold pe;rw[ha]
   rw[hP]at hat;refine fu [(88,fun _=>some (.tup [.int .i64 (Lib.atoiSat wd),.iface]))] ?_;dsimp only[dq,go_sem];try dsimp only[dq,go_sem]
   refine⟨(by simp[vb]<;>omega),?_,?_⟩
   ·exact⟨hat,trivial⟩
   refine aZ ?_;dsimp only[tk,um,go_sem];try dsimp only[tk,um,go_sem]
   refine⟨(by simp[vb]<;>omega),(by simp[vb]<;>omega),?_⟩;refine aZ ?_;dsimp only[tk,um,go_sem];refine⟨fun _=>?_,fun h=>by simp at h<;>omega⟩;refine fT 2 true [] ?_;simp only[iF,List.take_succ_cons,List.take_zero,List.getElem?_cons_succ,List.getElem?_cons_zero,go_sem,jz];exact⟨by simp[aG],trivial,hbad (bad (by unfold xm;rw[ha]) ⟨_,hP⟩) _ _⟩
  |_ =>
   have hP:pe wd= .tup [.int .i64 0,.iface]:=by unfold pe;rw[ha]
   rw[hP]at hat;refine fu [(88,fun _=>some (.tup [.int .i64 0,.iface]))] ?_;dsimp only[dq,go_sem];try dsimp only[dq,go_sem]
   refine⟨(by simp[vb]<;>omega),?_,?_⟩
   ·exact⟨hat,trivial⟩
   refine aZ ?_;dsimp only[tk,um,go_sem];try dsimp only[tk,um,go_sem]
   refine⟨(by simp[vb]<;>omega),(by simp[vb]<;>omega),?_⟩;refine aZ ?_;dsimp only[tk,um,go_sem];refine⟨fun _=>?_,fun h=>by simp at h<;>omega⟩;refine fT 2 true [] ?_;simp only[iF,List.take_succ_cons,List.take_zero,List.getElem?_cons_succ,List.getElem?_cons_zero,go_sem,jz];exact⟨by simp[aG],trivial,hbad (bad (by unfold xm;rw[ha]) ⟨_,hP⟩) _ _⟩
theorem lB (c:UInt8):∀(s:List UInt8),(mF c s).length≤s.length+1∧∀w∈mF c s,w.length≤s.length
 |[]=>by simp[mF]
 |x::r=>by
  obtain⟨h1,h2⟩:=lB c r;unfold mF;split
  ·refine⟨by simp;omega,fun w hw=>?_⟩;rcases List.mem_cons.mp hw with rfl|hw
   ·simp
   ·have:=h2 w hw;simp;omega
  ·cases hs:mF c r with
   |nil=>exact absurd hs (yV c r)
   |cons a t =>
    rw[hs]at h1 h2;refine⟨by simp at h1 ⊢;omega,fun w hw=>?_⟩;rcases List.mem_cons.mp hw with rfl|hw
    ·have:=h2 a List.mem_cons_self;simp;omega
    ·have:=h2 w (List.mem_cons_of_mem _ hw);simp;omega
theorem Bv (x:List UInt8) (r:List (List UInt8)) (hx:x.length≤100000) (hr:r.length≤1000000) (w:List UInt8) (ns:List Int) (hl:nq x=some (w,ns)) :
  aN ctx 57 [.ptr 0 0 0] [aF (x::r)] (.pv (.tup [.str w,cY ns])) [aF r]:=by
 refine bo (C:=ctx) (Fn.of GW rfl) rfl (by simp) rfl rfl ?_;unfold nq at hl;obtain⟨hb1,hb2⟩:=lB 32 x;cases hs:mF 32 x with
 |nil=>exact absurd hs (yV 32 x)
 |cons h t =>
  rw[hs]at hl hb1 hb2;simp only[List.length_cons]at hb1;simp only at hl;refine uo x r h t hs (by omega) hr ?_;refine uq r t (by omega) (fun w hw=>by have:=hb2 w (List.mem_cons_of_mem _ hw);omega) h (fun ns' f hn hf=>?_) fun hn=>?_
  ·rw[hn]at hl;injection hl with hl
   injection hl with e1 e2
   subst e1 e2;refine bz _ hf ?_;unfold HJ;cases ns' with
   |nil =>
    refine aZ ?_;dsimp only[tk,um,cY,go_sem];try dsimp only[tk,um,cY,go_sem]
    refine⟨(by simp[vb]<;>omega),(by simp[vb]<;>omega),?_⟩;refine aZ ?_;dsimp only[tk,um,cY,go_sem];exact⟨⟨trivial,rfl⟩,[],rfl⟩
   |cons n l =>
    refine bz [(5,tk (n::l)),(4,.pv (.sl (t.length+1) ((h::t).map .str)))] (by (repeat' (first|exact trivial|refine And.intro (by first|rfl|(simp[get,Nat.beq]<;>omega)|(dsimp only[get];congr 1<;>first|rfl|omega|(simp<;>omega))) ?_))) ?_;have e:um (n::l)=[⟨((n::l).map (PV.int .i64)).map .pv,l.length,1,3,false⟩]:=by rw[Dh,List.map_map];rfl
    rw[e,Dg];refine ma (μ:=[aF r]) (ps:=(n::l).map (PV.int .i64)) rfl (Nat.le_refl _) (by simp) (by simp) (fun _=>rfl) rfl ?_;refine aZ ?_;dsimp only[tk,um,cY,go_sem];try dsimp only[tk,um,cY,go_sem]
    refine⟨(by simp[vb]<;>omega),(by simp[vb]<;>omega),?_⟩;refine aZ ?_;dsimp only[tk,um,cY,go_sem];exact⟨⟨trivial,rfl⟩,[],rfl⟩
  ·rw[hn]at hl;cases hl
theorem Dj (x:List UInt8) (r:List (List UInt8)) (hx:x.length≤100000) (hr:r.length≤1000000) (hl:nq x=none) :
  eQ ctx 57 [.ptr 0 0 0] [aF (x::r)] cw (fun μ=>μ=[aF r]):=by
 refine nc (C:=ctx) (Fn.of GW rfl) rfl ?_;unfold nq at hl;obtain⟨hb1,hb2⟩:=lB 32 x;cases hs:mF 32 x with
 |nil=>exact absurd hs (yV 32 x)
 |cons h t =>
  rw[hs]at hl hb1 hb2;simp only[List.length_cons]at hb1;simp only at hl;refine uo x r h t hs (by omega) hr ?_;refine uq r t (by omega) (fun w hw=>by have:=hb2 w (List.mem_cons_of_mem _ hw);omega) h (fun ns' f hn hf=>?_) fun hn f μ=>?_
  ·rw[hn]at hl;cases hl
  ·exact⟨rfl,[aF r],μ,rfl,Nat.le_refl _,rfl,rfl⟩
end Pur
end
section
namespace Rf
abbrev Ln:=List UInt8
def xn:Ln:=[114,111,119]
def nr:Ln:=[103,114,97,112,104]
def nt:Ln:=[115,112,108,105,116]
def mh:Ln:=[99,97,115,101,115]
def kR:Ln:=[99,108,111,115,101,100]
def ir (tf:List Ln→Option (Tree×List Ln)):Nat→List Ln→Option (List Tree×List Ln)
 |0,ls=>some ([],ls)
 |n+1,ls=>match tf ls with
  |some (t,r)=>match ir tf n r with
   |some (ts,r')=>some (t::ts,r')
   |none=>none
  |none=>none
def fG:Nat→Int→List aS→List Ln→Option (Tree×List Ln)
 |0,_,_,_=>none
 |f+1,lev,S,ls=>match ls with
  |[]=>none
  |x::r=>match nq x with
   |none=>none
   |some (w,ns) =>
    if w=xn∧ns.length=2 then fG f lev (S++[⟨0,ns.getD 0 0,ns.getD 1 0⟩]) r
    else if w=nr∧ns.length=2 then fG f lev (S++[⟨1,ns.getD 0 0,ns.getD 1 0⟩]) r
    else if w=kR∧ns.length=0 then some (.node 0 S 0 0 [],r)
    else if w=nt∧ns.length=2 then match ir (fun l=>if lev+1≤4096 then fG f (lev+1) [] l else none) 2 r with
     |some (ks,r')=>some (.node 1 S (ns.getD 0 0) (ns.getD 1 0) ks,r')
     |none=>none
    else if w=mh∧ns.length=1∧1≤ns.getD 0 0∧ns.getD 0 0≤1024 then match ir (fun l=>if lev+1≤4096 then fG f (lev+1) [] l else none) (ns.getD 0 0).toNat r with
     |some (ks,r')=>some (.node 2 S 0 0 ks,r')
     |none=>none
    else none
def kx (f:Nat) (lev:Int) (ls:List Ln):Option (Tree×List Ln):=if lev≤4096 then fG f lev [] ls else none
end Rf
namespace Pur
open Go.RowKit
attribute [local go_sem] ξ bV gF cd bI cG jK List.map bB aR get put tmpsOf eY oK kY oa conds ev cond_true cond_false Nat.beq Nat.ble Nat.add quiet fc cW dH zP List.append_eq List.nil_append List.cons_append eX gq gr gu gv gw gx kf jM fQ pC gZ calm quiet.isCallK dU List.getElem?_cons_zero List.getElem?_cons_succ cE dM cellsOf List.all bZ List.length_cons List.length_nil jr bC List.drop List.take List.getD Option.getD_some Eb Ec Cn Ed Ee Ef kZ nY k6 k7 setAt List.set Nat.reduceAdd Nat.reduceMul dy ca refsOf bW cS scalar eJ gO cU eI bA after freeze mT l5 bw fS iN jk iB iV iW gf iX iY jb jc jd je jf jg jh ji jj gg gi gj fR pD bytesOf cf fk a8 cH fN bP cF dV still dk gN eC jH cA iC List.isEmpty gk gm gp Int.reduceToNat Nat.mul_one Nat.reduceSub yx fp ef fl fe look fm strip guarded my iE jq eH jG ek mD iZ ja Bool.or_false Bool.or_true Bool.and_true Bool.and_false Nat.blt iz gI j0 dB idxOf kp l6 o4 gy bA tz
open Rf
theorem eQ.mono {C:Ctx} {g:FuncId} {al:List AV} {μ:AM} {c:List PanicEntry} {P Q:AM→Prop} (h:eQ C g al μ c P) (hq:∀μ,P μ→Q μ):eQ C g al μ c Q :=
 ⟨h.1,fun w0 S γ w vs hW hp=>(h.2 w0 S γ w vs hW hp).mono fun e w' ⟨S',γ',μ',h1,h2,h3,h4⟩=>⟨S',γ',μ',h1,h2,h3,hq _ h4⟩⟩
theorem HK (n:Nat) (r:List Ln):r9 [0] n (aF r)=aF r:=rfl
theorem sG (r:List Ln) (b:dT) (tl:AM):xY [0] (b::tl).length [0] [aF r] (b::tl)=aF r::tl:=by
 simp[xY,HK]
theorem EP (x:Ln) (r:List Ln) (tl:AM) (hx:x.length≤100000) (hr:r.length≤1000000) (w:Ln) (ns:List Int) (hl:nq x=some (w,ns)) :
  aN ctx 57 [.ptr 0 0 0] (aF (x::r)::tl) (.pv (.tup [.str w,cY ns])) (aF r::tl):=by
 have:=(Bv x r hx hr w ns hl).frame [0] (aF (x::r)::tl) (by simp) (by simp) ⟨rfl,trivial⟩ rfl (by simp[ck,Nat.blt]) (by simp);rw[sG]at this;exact this
theorem xo (x:Ln) (r:List Ln) (tl:AM) (hx:x.length≤100000) (hr:r.length≤1000000) (hl:nq x=none) :
  eQ ctx 57 [.ptr 0 0 0] (aF (x::r)::tl) cw (fun μ=>μ=aF r::tl):=by
 have:=(Dj x r hx hr hl).frame [0] (aF (x::r)::tl) (by simp) (by simp) ⟨rfl,trivial⟩ rfl (by simp[ck,Nat.blt]) (by rintro _ rfl;simp);exact this.mono fun μ ⟨μs,h1,h2⟩=>by subst h1;rw[h2,sG]
theorem xp (tl:AM):eQ ctx 57 [.ptr 0 0 0] (aF []::tl) cw (fun μ=>μ=aF []::tl):=by
 have:=Di.frame [0] (aF []::tl) (by simp) (by simp) ⟨rfl,trivial⟩ rfl (by simp[ck,Nat.blt]) (by rintro _ rfl;simp);exact this.mono fun μ ⟨μs,h1,h2⟩=>by subst h1;rw[h2,sG]
def iu (d:Nat):Bool:=Nat.beq d 105
def Ix:ay:=(⟨_,by conv=>(lhs;reduce;try simp only[cJ,Int.cast_ofNat_Int,Int.reduceNegSucc,UInt8.reduceOfNat])⟩:{x // codeOf Tryz.prog 56 iu=some x}).1
theorem GY:bp Tryz.prog 56 iu=some (Ix,[.cell 6 5 true],111,true):=by kernel_rfl
def GZ:ay:=(⟨_,by conv=>(lhs;reduce;try simp only[cJ,Int.cast_ofNat_Int,Int.reduceNegSucc,UInt8.reduceOfNat])⟩:{x // (codeOf Tryz.prog 56 iu).map (fun y=>y.sub [1,1,1,1])=some x}).1
def G0:ay:=(⟨_,by conv=>(lhs;reduce;try simp only[cJ,Int.cast_ofNat_Int,Int.reduceNegSucc,UInt8.reduceOfNat])⟩:{x // (codeOf Tryz.prog 56 iu).map (fun y=>y.sub [1,1,1,1,0,0,0,1,1,1,1,1,1])=some x}).1
def aE:dT:=⟨[.pv (.int .i64 0),.pv .nilsl,.pv (.int .i64 0),.pv (.int .i64 0),.pv .nilsl],0,5,25,false⟩
abbrev FW:AV:=.pv (.val (.func (.func 87) #[] #[]))
theorem ur (lev:Int) (h0:lev≤4096) (ls:List Ln) {R:Exit→AF→AM→Prop} (hk:Aw ctx iu 111 1 GZ R [(8,FW),(7,.ptr 2 0 0),(6,.ptr 1 0 0),(0,.ptr 0 0 0),(1,.bm 57 [.ptr 0 0 0]),(2,.pv (.int .i64 lev))] [aF ls,aE,aE]) :
  Aw ctx iu 111 1 Ix R (jK 0 [.ptr 0 0 0,.bm 57 [.ptr 0 0 0],.pv (.int .i64 lev)]) [aF ls]:=by
 have hd:decide (lev≤4096)=true:=by simp[h0]
 unfold Ix;iterate 6 first
  |refine⟨by simp[vb]<;>omega,by simp[vb]<;>omega,?_⟩
  |(refine aZ ?_;iterate 2 (try dsimp only[go_sem]))
 refine fu [(87,fun _=>some (.tup []))] ?_;dsimp only[go_sem];try dsimp only[go_sem]
 refine⟨(by simp[vb]<;>omega),?_,?_⟩
 ·exact⟨by rw[hd];exact Ad,trivial⟩
 exact bz _ (by (repeat' (first|exact trivial|refine And.intro (by first|rfl|(simp[get,Nat.beq]<;>omega)|(dsimp only[get];congr 1<;>first|rfl|omega|(simp<;>omega))) ?_))) hk
def tB (k:Int) (c a:Int):List aS→dT
 |[]=>⟨[.pv (.int .i64 k),.pv .nilsl,.pv (.int .i64 c),.pv (.int .i64 a),.pv .nilsl],0,5,25,false⟩
 |_::l=>⟨[.pv (.int .i64 k),.ref 3 l.length 0 (l.length+1),.pv (.int .i64 c),.pv (.int .i64 a),.pv .nilsl],0,5,25,false⟩
def sM:List aS→AM
 |[]=>[]
 |s::l=>[⟨(s::l).flatMap aw |>.map .pv,l.length,3,66,false⟩]
theorem nu (k c a:Int):tB k c a []=⟨[.pv (.int .i64 k),.pv .nilsl,.pv (.int .i64 c),.pv (.int .i64 a),.pv .nilsl],0,5,25,false⟩:=rfl
theorem kS (k c a:Int) (s:aS) (l:List aS):tB k c a (s::l)=⟨[.pv (.int .i64 k),.ref 3 l.length 0 (l.length+1),.pv (.int .i64 c),.pv (.int .i64 a),.pv .nilsl],0,5,25,false⟩:=rfl
theorem qd:sM []=[]:=rfl
theorem kT (s:aS) (l:List aS):sM (s::l)=[⟨(s::l).flatMap aw |>.map .pv,l.length,3,66,false⟩]:=rfl
def ER:ay:=(⟨_,by conv=>(lhs;reduce;try simp only[cJ,Int.cast_ofNat_Int,Int.reduceNegSucc,UInt8.reduceOfNat])⟩:{x // (codeOf Tryz.prog 56 iu).map (fun y=>y.sub [1,1,1,1,0,0,0])=some x}).1
def G1:ay:=(⟨_,by conv=>(lhs;reduce;try simp only[cJ,Int.cast_ofNat_Int,Int.reduceNegSucc,UInt8.reduceOfNat])⟩:{x // (codeOf Tryz.prog 56 iu).map (fun y=>y.sub [1,1,1,1,0,0,0,1,1,1,1])=some x}).1
def arity (w:Ln):Option Nat :=
 if w=xn then some 2 else if w=nr then some 2 else if w=kR then some 0 else if w=nt then some 2 else if w=mh then some 1 else none
def ka (lev:Int):AF:=[(8,FW),(7,.ptr 2 0 0),(6,.ptr 1 0 0),(0,.ptr 0 0 0),(1,.bm 57 [.ptr 0 0 0]),(2,.pv (.int .i64 lev))]
def nV (S:List aS) (ls:List Ln):AM:=[aF ls,aE,tB 0 0 0 S]++sM S
theorem Bw (w:Ln):jO [.pv (.str [114,111,119]),.pv (.int .i64 2),.pv (.str [103,114,97,112,104]),.pv (.int .i64 2),.pv (.str [99,108,111,115,101,100]),.pv (.int .i64 0),.pv (.str [115,112,108,105,116]),.pv (.int .i64 2),.pv (.str [99,97,115,101,115]),.pv (.int .i64 1)] (.str w) (.pv (.int .i64 0))= .pv (.int .i64 ((arity w).getD 0)) ∧
  iA [.pv (.str [114,111,119]),.pv (.int .i64 2),.pv (.str [103,114,97,112,104]),.pv (.int .i64 2),.pv (.str [99,108,111,115,101,100]),.pv (.int .i64 0),.pv (.str [115,112,108,105,116]),.pv (.int .i64 2),.pv (.str [99,97,115,101,115]),.pv (.int .i64 1)] (.str w)=(arity w).isSome:=by
 have key:∀u:Ln,jN (.str w) (.pv (.str u))=decide (w=u):=fun u=>by
  show(w==u)=decide (w=u);by_cases h:w=u<;>simp[h]
 simp only[jO,iA,key];unfold arity xn nr kR nt mh;by_cases h1:w=[114,111,119]
 ·subst h1;exact⟨rfl,rfl⟩
 by_cases h2:w=[103,114,97,112,104]
 ·subst h2;exact⟨rfl,rfl⟩
 by_cases h3:w=[99,108,111,115,101,100]
 ·subst h3;exact⟨rfl,rfl⟩
 by_cases h4:w=[115,112,108,105,116]
 ·subst h4;exact⟨rfl,rfl⟩
 by_cases h5:w=[99,97,115,101,115]
 ·subst h5;exact⟨rfl,rfl⟩
 simp[h1,h2,h3,h4,h5]
theorem rb (aD:List Nat) (ps:List PV):(ps.map AV.pv).map (dB aD 3)=ps.map .pv:=by
 rw[List.map_map];exact List.map_congr_left fun p _=>rfl
theorem ES (s:aS) (l:List aS) (r:List Ln) (mp:dT):gI [0,1,2,3] (nV (s::l) r++[mp])=nV (s::l) r:=by
 have e:gI [0,1,2,3] (nV (s::l) r++[mp])=[aF r,aE,tB 0 0 0 (s::l),⟨(((s::l).flatMap aw).map AV.pv).map (dB [0,1,2,3] 3),l.length,3,66,false⟩]:=rfl;rw[e,rb];rfl
theorem FX (s:aS) (l:List aS) (r:List Ln) (mp:dT) {x:ay} {R:Exit→AF→AM→Prop} {f:AF} (hf:iz [0,1,2,3] f=f) (h:Aw ctx iu 111 1 x R f (nV (s::l) r)):Aw ctx iu 111 1 x R f (nV (s::l) r++[mp]) :=
 fK [0,1,2,3] rfl (by rw[ES,hf];exact h)
theorem ke {b:Bool} (h:b=true):aj ctx 87 [.bool b] (.tup []):=h▸Ad
theorem gK {b:Bool} (h:b=false) {μ:AM} (hμ:aP μ μ.length=true):eQ ctx 87 [.pv (.bool b)] μ cw (fun μ'=>μ'=μ):=h▸sB μ hμ
theorem Bx (lev:Int) (S:List aS) (x:Ln) (r:List Ln) (hx:x.length≤100000) (hr:r.length≤1000000) (w:Ln) (ns:List Int) (hl:nq x=some (w,ns)) (hn:ns.length≤100000) {R:Exit→AF→AM→Prop}
  (hbad:arity w≠some ns.length→∀f junk,R (.panic cw) f (aF r::junk))
  (hgood:arity w=some ns.length→Aw ctx iu 111 1 G1 R ((9,.pv (.str w))::(10,.pv (cY ns))::ka lev) (nV S r)) :
  Aw ctx iu 111 1 ER R (ka lev) (nV S (x::r)):=by
 have h1:=EP x r ([aE,tB 0 0 0 S]++sM S) hx hr w ns hl;obtain⟨hg,hh⟩:=Bw w;unfold ER;cases S with
 |nil =>
  unfold ka;dsimp only[nV];simp only[qd,nu,List.append_nil,List.cons_append,List.nil_append]at h1 ⊢;refine br [(22,{val:=some (.pv (.tup [.str w,cY ns])),mem:=some ([aF r,aE,tB 0 0 0 []])})] ?_;dsimp only[nu,go_sem];try dsimp only[nu,go_sem]
  refine⟨(by simp[vb]<;>omega),?_,?_⟩
  ·exact⟨h1,trivial⟩
  refine aZ ?_;dsimp only[go_sem];try dsimp only[go_sem]
  refine⟨(by simp[vb,iA,jN]<;>omega),(by simp[vb,iA,jN]<;>omega),?_⟩;cases ha:arity w with
  |none =>
   rw[ha]at hg hh hbad;refine br [ξ 30 (.tup [.int .i64 0,.bool false])] ?_;dsimp only[go_sem];try dsimp only[go_sem]
   refine⟨(by simp[vb]<;>omega),?_,?_⟩
   ·exact⟨by rw[hg,hh];rfl,trivial⟩
   refine bJ ?_;refine fT 8 false [] ?_;simp only[iF,List.take_succ_cons,List.take_zero,List.getElem?_cons_succ,List.getElem?_cons_zero,go_sem,jz];exact⟨by simp[aG],trivial,cw,_,sB _ (by simp[aP,ck,aF,aE]),fun μ1 e=>by rw[e];exact hbad (by simp) _ _⟩
  |some k =>
   rw[ha]at hg hh hbad hgood;refine br [ξ 30 (.tup [.int .i64 k,.bool true])] ?_;dsimp only[go_sem];try dsimp only[go_sem]
   refine⟨(by simp[vb]<;>omega),?_,?_⟩
   ·exact⟨by rw[hg,hh];rfl,trivial⟩
   cases ns with
   |nil =>
    simp only[cY,List.length_nil]at hbad hgood ⊢;by_cases hk:k=0
    ·subst hk;refine bJ (jl (T:=[(87,fun _=>some (.tup []))]) (H:=[]) ?_);dsimp only[go_sem];try dsimp only[go_sem]
     refine⟨(by simp[vb]<;>omega),?_,?_⟩
     ·exact⟨ke (by rfl),trivial⟩
     exact bz ((9,.pv (.str w))::(10,.pv (.nilsl))::ka lev) (by (repeat' (first|exact trivial|refine And.intro (by first|rfl|(simp[get,Nat.beq,ka]<;>omega)|(dsimp only[get];congr 1<;>first|rfl|omega|(simp<;>omega))) ?_))) (fK [0,1,2] rfl (hgood rfl))
    ·refine bJ ?_;refine fT 8 false [] ?_;simp only[iF,List.take_succ_cons,List.take_zero,List.getElem?_cons_succ,List.getElem?_cons_zero,go_sem,jz];exact⟨by simp[aG],trivial,cw,_,gK (by simp;omega) (by simp[aP,ck,aF,aE]),fun μ1 e=>by rw[e];exact hbad (by simpa using hk) _ _⟩
   |cons n NS =>
    simp only[cY,List.length_cons]at hbad hgood hn ⊢;by_cases hk:k=NS.length+1
    ·subst hk;refine bJ (jl (T:=[(87,fun _=>some (.tup []))]) (H:=[]) ?_);dsimp only[go_sem];try dsimp only[go_sem]
     refine⟨(by simp[vb]<;>omega),?_,?_⟩
     ·exact⟨ke (by simp),trivial⟩
     exact bz ((9,.pv (.str w))::(10,.pv (.sl (NS.length+1) ((n::NS).map (.int .i64))))::ka lev) (by (repeat' (first|exact trivial|refine And.intro (by first|rfl|(simp[get,Nat.beq,ka]<;>omega)|(dsimp only[get];congr 1<;>first|rfl|omega|(simp<;>omega))) ?_))) (fK [0,1,2] rfl (hgood rfl))
    ·refine bJ ?_;refine fT 8 false [] ?_;simp only[iF,List.take_succ_cons,List.take_zero,List.getElem?_cons_succ,List.getElem?_cons_zero,go_sem,jz];exact⟨by simp[aG]<;>omega,trivial,cw,_,gK (by simp;omega) (by simp[aP,ck,aF,aE]),fun μ1 e=>by rw[e];exact hbad (by simpa using hk) _ _⟩
 |cons s l =>
  unfold ka;dsimp only[nV];simp only[kT,kS,List.append_nil,List.cons_append,List.nil_append]at h1 ⊢;refine br [(22,{val:=some (.pv (.tup [.str w,cY ns])),mem:=some (nV (s::l) r)})] ?_;dsimp only[nV,kS,kT,List.cons_append,List.nil_append,go_sem];try dsimp only[nV,kS,kT,List.cons_append,List.nil_append,go_sem]
  refine⟨(by simp[vb]<;>omega),?_,?_⟩
  ·exact⟨h1,trivial⟩
  refine aZ ?_;dsimp only[go_sem];try dsimp only[go_sem]
  refine⟨(by simp[vb,iA,jN]<;>omega),(by simp[vb,iA,jN]<;>omega),?_⟩;cases ha:arity w with
  |none =>
   rw[ha]at hg hh hbad;refine br [ξ 30 (.tup [.int .i64 0,.bool false])] ?_;dsimp only[go_sem];try dsimp only[go_sem]
   refine⟨(by simp[vb]<;>omega),?_,?_⟩
   ·exact⟨by rw[hg,hh];rfl,trivial⟩
   refine bJ ?_;refine fT 8 false [] ?_;simp only[iF,List.take_succ_cons,List.take_zero,List.getElem?_cons_succ,List.getElem?_cons_zero,go_sem,jz];exact⟨by simp[aG],trivial,cw,_,sB _ (by simp[aP,ck,aF,aE]),fun μ1 e=>by rw[e];exact hbad (by simp) _ _⟩
  |some k =>
   rw[ha]at hg hh hbad hgood;refine br [ξ 30 (.tup [.int .i64 k,.bool true])] ?_;dsimp only[go_sem];try dsimp only[go_sem]
   refine⟨(by simp[vb]<;>omega),?_,?_⟩
   ·exact⟨by rw[hg,hh];rfl,trivial⟩
   cases ns with
   |nil =>
    simp only[cY,List.length_nil]at hbad hgood ⊢;by_cases hk:k=0
    ·subst hk;refine bJ (jl (T:=[(87,fun _=>some (.tup []))]) (H:=[]) ?_);dsimp only[go_sem];try dsimp only[go_sem]
     refine⟨(by simp[vb]<;>omega),?_,?_⟩
     ·exact⟨ke (by rfl),trivial⟩
     exact bz ((9,.pv (.str w))::(10,.pv (.nilsl))::ka lev) (by (repeat' (first|exact trivial|refine And.intro (by first|rfl|(simp[get,Nat.beq,ka]<;>omega)|(dsimp only[get];congr 1<;>first|rfl|omega|(simp<;>omega))) ?_))) (FX s l r _ rfl (hgood rfl))
    ·refine bJ ?_;refine fT 8 false [] ?_;simp only[iF,List.take_succ_cons,List.take_zero,List.getElem?_cons_succ,List.getElem?_cons_zero,go_sem,jz];exact⟨by simp[aG],trivial,cw,_,gK (by simp;omega) (by simp[aP,ck,aF,aE]),fun μ1 e=>by rw[e];exact hbad (by simpa using hk) _ _⟩
   |cons n NS =>
    simp only[cY,List.length_cons]at hbad hgood hn ⊢;by_cases hk:k=NS.length+1
    ·subst hk;refine bJ (jl (T:=[(87,fun _=>some (.tup []))]) (H:=[]) ?_);dsimp only[go_sem];try dsimp only[go_sem]
     refine⟨(by simp[vb]<;>omega),?_,?_⟩
     ·exact⟨ke (by simp),trivial⟩
     exact bz ((9,.pv (.str w))::(10,.pv (.sl (NS.length+1) ((n::NS).map (.int .i64))))::ka lev) (by (repeat' (first|exact trivial|refine And.intro (by first|rfl|(simp[get,Nat.beq,ka]<;>omega)|(dsimp only[get];congr 1<;>first|rfl|omega|(simp<;>omega))) ?_))) (FX s l r _ rfl (hgood rfl))
    ·refine bJ ?_;refine fT 8 false [] ?_;simp only[iF,List.take_succ_cons,List.take_zero,List.getElem?_cons_succ,List.getElem?_cons_zero,go_sem,jz];exact⟨by simp[aG]<;>omega,trivial,cw,_,gK (by simp;omega) (by simp[aP,ck,aF,aE]),fun μ1 e=>by rw[e];exact hbad (by simpa using hk) _ _⟩
def kB (k c a:Int) (S:List aS):List Tree→dT
 |[]=>⟨[.pv (.int .i64 k),.pv (aa S),.pv (.int .i64 c),.pv (.int .i64 a),.pv .nilsl],0,5,25,false⟩
 |_::l=>⟨[.pv (.int .i64 k),.pv (aa S),.pv (.int .i64 c),.pv (.int .i64 a),.ref 3 l.length 0 (l.length+1)],0,5,25,false⟩
def kM:List Tree→AM
 |[]=>[]
 |t::l=>[⟨(t::l).flatMap cy |>.map .pv,l.length,5,25,false⟩]
theorem sH (k c a:Int) (S:List aS):kB k c a S []=⟨[.pv (.int .i64 k),.pv (aa S),.pv (.int .i64 c),.pv (.int .i64 a),.pv .nilsl],0,5,25,false⟩:=rfl
theorem Ag (k c a:Int) (S:List aS) (t:Tree) (l:List Tree):kB k c a S (t::l)=⟨[.pv (.int .i64 k),.pv (aa S),.pv (.int .i64 c),.pv (.int .i64 a),.ref 3 l.length 0 (l.length+1)],0,5,25,false⟩:=rfl
theorem y8:kM []=[]:=rfl
theorem Ah (t:Tree) (l:List Tree):kM (t::l)=[⟨(t::l).flatMap cy |>.map .pv,l.length,5,25,false⟩]:=rfl
theorem lC {R:Exit→AF→AM→Prop} {x:ay} {f:AF} (k c a:Int) (S:List aS) (ls:List Ln) (hf:∀M,kp M 3 f=f) (hof:dm f 3=true) (h:Aw ctx iu 111 1 x R f [aF ls,aE,kB k c a S []]) :
  Aw ctx iu 111 1 x R f ([aF ls,aE,tB k c a S]++sM S):=by
 cases S with
 |nil =>
  refine nM (μ':=[aF ls,aE,kB k c a [] []]) ?_ h;exact MW.last (μ:=[aF ls,aE]) ⟨(PW.refl CW.refl [AV.pv (.int .i64 k)]).kF (PW.cons CW.nil (PW.refl CW.refl _)),rfl,rfl,rfl,rfl⟩
 |cons s l =>
  exact gJ (μ:=[aF ls,aE]) (c1:=[.int .i64 k]) (c2:=[.int .i64 c,.int .i64 a,.nilsl]) (ps:=(s::l).flatMap aw) (by simp[aP,ck,aF,aE]) (by simp) (by simp) (cR _) hf hof h
def oF (lev:Int) (o:Option (Tree×List Ln)) (ls:List Ln) (tl:AM):Prop:=match o with
 |some (t,r)=>aN ctx 56 [.ptr 0 0 0,.bm 57 [.ptr 0 0 0],.pv (.int .i64 lev)] (aF ls::tl) (.pv (aA t)) (aF r::tl)
 |none=>eQ ctx 56 [.ptr 0 0 0,.bm 57 [.ptr 0 0 0],.pv (.int .i64 lev)] (aF ls::tl) cw (fun μ=>∃r,μ=aF r::tl)
theorem vz (l:List Tree):(l.map fun _=>5).sum=l.length*5:=by induction l<;>simp_all<;>omega
theorem ET (lev:Int) (hlev: -1000≤lev∧lev≤5000) (k c a:Int) (S:List aS) (n:Nat) (hn:n≤1024) (ls:List Ln) (tf:List Ln→Option (Tree×List Ln))
  (hsuf:∀ls' t r,tf ls'=some (t,r)→r <:+ ls') (htf:∀ls' tl,ls' <:+ ls→oF (lev+1) (tf ls') ls' tl) {R:Exit→AF→AM→Prop}
  (hbad:ir tf n ls=none→∀f r junk,R (.panic cw) f (aF r::junk))
  (hgood:∀ts r,ir tf n ls=some (ts,r)→r <:+ ls→∀f junk,get f 6= .ptr 1 0 0→R .ret f (aF r::ae (.node k S c a ts)::junk)) :
  Aw ctx iu 111 1 G0 R ((14,.pv (.int .i64 n))::ka lev) [aF ls,aE,kB k c a S []]:=by
 unfold G0 ka;refine bJ ?_;refine aZ ?_;dsimp only[sH,go_sem];try dsimp only[sH,go_sem]
 refine⟨(by simp[vb]<;>omega),(by simp[vb]<;>omega),?_⟩;refine bS ?_;refine cC (fun s:List Tree×List Ln=>s.1.length≤n∧s.2 <:+ ls∧ir tf n ls=match ir tf (n-s.1.length) s.2 with|some (ts,r')=>some (s.1++ts,r')|none=>none)
  (fun s=>[(0,.ptr 0 0 0),(1,.bm 57 [.ptr 0 0 0]),(2,.pv (.int .i64 lev)),(6,.ptr 1 0 0),(7,.ptr 2 0 0),(96,.pv (.int .i64 n)),(97,.pv (.int .i64 s.1.length))]) (fun s=>[aF s.2,aE,kB k c a S s.1]++kM s.1) (fun s=>n-s.1.length) ([],ls) ⟨Nat.zero_le _,List.suffix_refl _,?_⟩ (by (repeat' (first|exact trivial|refine And.intro (by first|rfl|(simp[get,Nat.beq]<;>omega)|(dsimp only[get];congr 1<;>first|rfl|omega|(simp<;>omega))) ?_))) ⟨[],rfl⟩ (fun s _=>?_) fun s hs=>?_
 ·simp only[List.length_nil,Nat.sub_zero,List.nil_append];cases ir tf n ls with
  |none=>rfl
  |some x=>rfl
 ·obtain⟨ks,r⟩:=s;cases ks with
  |nil=>exact⟨by simp,rfl,rfl⟩
  |cons n l=>exact⟨by simp,rfl,by simp[kM,kB,aP,aF,aE,ck]⟩
 obtain⟨ks,r⟩:=s;obtain⟨h1,h2,h3⟩:=hs;simp only at h1 h2 h3;by_cases hlt:ks.length<n
 ·have hsub:n-ks.length=(n-ks.length-1)+1:=by omega
  rw[hsub,ir]at h3;cases ht:tf r with
  |none =>
   rw[ht]at h3;simp only at h3;have hb:=hbad h3;have hp:=fun tl=>htf r tl h2
   simp only[oF,ht]at hp;cases ks with
   |nil =>
    simp only[sH,y8,List.append_nil,List.length_nil]at hlt ⊢;iterate 5 first
     |refine⟨fun _=>?_,fun h=>by simp at h<;>omega⟩
     |refine⟨by simp[vb]<;>omega,by simp[vb]<;>omega,?_⟩
     |(refine aZ ?_;iterate 2 (try dsimp only[go_sem]))
    refine bJ (bS ?_);refine zZ 6 [ξ 6 (aA (.node 0 [] 0 0 []))] ?_;simp only[vl,List.take_succ_cons,List.take_zero,List.getElem?_cons_succ,List.getElem?_cons_zero,List.drop_succ_cons,List.drop_zero,aA,Tree.kind,Tree.steps,Tree.cell,Tree.pos,Tree.kids,aa,ah,go_sem];refine⟨by simp[aG,lI,fX]<;>omega,trivial,trivial,_,_,.pv (aA (.node 0 [] 0 0 [])),cw,_,rfl,rfl,rfl,hp _,fun μ' ⟨r',e⟩=>by rw[e];exact hb _ _ _,?_⟩;simp only[aA,Tree.kind,Tree.steps,Tree.cell,Tree.pos,Tree.kids,aa,ah,go_sem]
    exact⟨by simp[aG,lI,fX]<;>omega,by simp[aM],rfl⟩
   |cons t0 l =>
    simp only[Ag,Ah,List.cons_append,List.nil_append,List.length_cons]at hlt ⊢;iterate 5 first
     |refine⟨fun _=>?_,fun h=>by simp at h<;>omega⟩
     |refine⟨by simp[vb]<;>omega,by simp[vb]<;>omega,?_⟩
     |(refine aZ ?_;iterate 2 (try dsimp only[go_sem]))
    refine bJ (bS ?_);refine zZ 6 [ξ 6 (aA (.node 0 [] 0 0 []))] ?_;simp only[vl,List.take_succ_cons,List.take_zero,List.getElem?_cons_succ,List.getElem?_cons_zero,List.drop_succ_cons,List.drop_zero,aA,Tree.kind,Tree.steps,Tree.cell,Tree.pos,Tree.kids,aa,ah,go_sem];refine⟨by simp[aG,lI,fX,c7,vz]<;>omega,trivial,trivial,_,_,.pv (aA (.node 0 [] 0 0 [])),cw,_,rfl,rfl,rfl,hp _,fun μ' ⟨r',e⟩=>by rw[e];exact hb _ _ _,?_⟩;simp only[aA,Tree.kind,Tree.steps,Tree.cell,Tree.pos,Tree.kids,aa,ah,go_sem]
    exact⟨by simp[aG,lI,fX,c7,vz]<;>omega,by simp[aM],rfl⟩
  |some x =>
   obtain⟨t,r'⟩:=x;rw[ht]at h3;simp only at h3;have hp:=fun tl=>htf r tl h2
   simp only[oF,ht]at hp;have hr:=hsuf r t r' ht;obtain⟨kd,s',c',a',l'⟩:=t;cases ks with
   |nil =>
    simp only[sH,y8,List.append_nil,List.length_nil]at hlt ⊢;iterate 5 first
     |refine⟨fun _=>?_,fun h=>by simp at h<;>omega⟩
     |refine⟨by simp[vb]<;>omega,by simp[vb]<;>omega,?_⟩
     |(refine aZ ?_;iterate 2 (try dsimp only[go_sem]))
    refine bJ (bS ?_);refine br [(105,{val:=some (.pv (aA (.node kd s' c' a' l'))),upd:=[(0,aF r')]})] ?_;dsimp only[aF,aA,Tree.kind,Tree.steps,Tree.cell,Tree.pos,Tree.kids,aa,ah,go_sem];try dsimp only[aF,aA,Tree.kind,Tree.steps,Tree.cell,Tree.pos,Tree.kids,aa,ah,go_sem]
    refine⟨(by simp[vb]<;>omega),?_,(by first|rfl|trivial),?_⟩
    ·exact⟨hp _,trivial⟩
    refine aZ ?_;dsimp only[go_sem];try dsimp only[go_sem]
    refine⟨(by simp[vb]<;>omega),(by simp[vb]<;>omega),?_⟩;refine⟨([.node kd s' c' a' l'],r'),by simp;omega,⟨by simp;omega,hr.trans h2,?_⟩,by (repeat' (first|exact trivial|refine And.intro (by first|rfl|(simp[get,Nat.beq]<;>omega)|(dsimp only[get];congr 1<;>first|rfl|omega|(simp<;>omega))) ?_)),[],?_⟩
    ·rw[h3];simp only[List.length_nil,List.length_cons,Nat.sub_zero,Nat.zero_add];cases ir tf (n-1) r'<;>rfl
    ·simp[kB,kM,kX,rq,fC,aa,ah,aF]
   |cons t0 l =>
    simp only[Ag,Ah,List.cons_append,List.nil_append,List.length_cons]at hlt hp h3 ⊢;iterate 5 first
     |refine⟨fun _=>?_,fun h=>by simp at h<;>omega⟩
     |refine⟨by simp[vb]<;>omega,by simp[vb]<;>omega,?_⟩
     |(refine aZ ?_;iterate 2 (try dsimp only[go_sem]))
    refine bJ (bS ?_);refine br [(105,{val:=some (.pv (aA (.node kd s' c' a' l'))),upd:=[(0,aF r')]})] ?_;dsimp only[aF,aA,Tree.kind,Tree.steps,Tree.cell,Tree.pos,Tree.kids,aa,ah,go_sem];try dsimp only[aF,aA,Tree.kind,Tree.steps,Tree.cell,Tree.pos,Tree.kids,aa,ah,go_sem]
    refine⟨(by simp[vb,c7,vz]<;>omega),?_,(by first|rfl|trivial),?_⟩
    ·exact⟨hp _,trivial⟩
    refine aZ ?_;dsimp only[go_sem];try dsimp only[go_sem]
    refine⟨(by simp[vb]<;>omega),(by simp[vb]<;>omega),?_⟩;refine⟨(t0::(l++[.node kd s' c' a' l']),r'),by simp;omega,⟨by simp;omega,hr.trans h2,?_⟩,by (repeat' (first|exact trivial|refine And.intro (by first|rfl|(simp[get,Nat.beq]<;>omega)|(dsimp only[get];congr 1<;>first|rfl|omega|(simp<;>omega))) ?_)),[],?_⟩
    ·rw[h3];simp only[List.length_append,List.length_nil,List.length_cons,Nat.zero_add];rw[show n-(l.length+1)-1=n-(l.length+1+1) by omega];cases ir tf (n-(l.length+1+1)) r' with
     |none=>rfl
     |some x=>simp
    ·simp[kB,kM,kX,rq,fC,aa,ah,aF]
 ·obtain hkl:ks.length=n:=by omega
  rw[show n-ks.length=0 by omega,ir]at h3;simp only[List.append_nil]at h3;have hg:=hgood ks r h3 h2;simp only;iterate 5 first
   |refine⟨fun h=>by simp at h<;>omega,fun _=>?_⟩
   |refine⟨by simp[vb,hkl]<;>omega,by simp[vb,hkl]<;>omega,?_⟩
   |(refine aZ ?_;iterate 2 (try dsimp only[go_sem]))
  cases ks with
  |nil =>
   simp only[sH,y8,List.append_nil]at hg ⊢;refine nM (μ':=[aF r,aE,ae (.node k S c a [])]) (MW.last (μ:=[aF r,aE]) ⟨(PW.refl CW.refl [AV.pv (.int .i64 k),.pv (aa S),.pv (.int .i64 c),.pv (.int .i64 a)]).kF (PW.cons CW.nil PW.nil),rfl,rfl,rfl,rfl⟩) ?_;refine aZ ?_;dsimp only[aE,ae,Tree.kind,Tree.steps,Tree.cell,Tree.pos,Tree.kids,go_sem];try dsimp only[aE,ae,Tree.kind,Tree.steps,Tree.cell,Tree.pos,Tree.kids,go_sem]
   refine⟨(by simp[vb]<;>omega),(by simp[vb]<;>omega),?_⟩;refine aZ ?_;dsimp only[aE,ae,Tree.kind,Tree.steps,Tree.cell,Tree.pos,Tree.kids,go_sem];exact hg _ _ rfl
  |cons t0 l =>
   refine bz [(6,.ptr 1 0 0),(7,.ptr 2 0 0)] (by (repeat' (first|exact trivial|refine And.intro (by first|rfl|(simp[get,Nat.beq]<;>omega)|(dsimp only[get];congr 1<;>first|rfl|omega|(simp<;>omega))) ?_))) ?_;refine gJ (μ:=[aF r,aE]) (c1:=[.int .i64 k,aa S,.int .i64 c,.int .i64 a]) (c2:=[]) (ps:=(t0::l).flatMap cy) (by simp[aP,ck,aF,aE]) (by simp) (by simp) (cL _) (fun _=>rfl) rfl ?_;show Aw _ _ _ _ _ _ _ [aF r,aE,ae (.node k S c a (t0::l))];refine aZ ?_
   dsimp only[aE,ae,Tree.kind,Tree.steps,Tree.cell,Tree.pos,Tree.kids,go_sem];try dsimp only[aE,ae,Tree.kind,Tree.steps,Tree.cell,Tree.pos,Tree.kids,go_sem]
   refine⟨(by simp[vb]<;>omega),(by simp[vb]<;>omega),?_⟩;refine aZ ?_;dsimp only[aE,ae,Tree.kind,Tree.steps,Tree.cell,Tree.pos,Tree.kids,go_sem];exact hg _ _ rfl
theorem FY {R:Exit→AF→AM→Prop} {e:Exit} {f:AF} {μ μ':AM} (h:R e f μ) (he:μ=μ'):R e f μ':=he▸h
theorem qS (l:List aS):(l.map fun _=>3).sum=l.length*3:=by induction l<;>simp_all<;>omega
theorem EU (lev:Int) (S:List aS) (hS:S.length≤1000000) (r:List Ln) (w:Ln) (ns:List Int) (ha:arity w=some ns.length) {R:Exit→AF→AM→Prop}
  (hstep:∀kd:Int,(w=xn∧kd=0∨w=nr∧kd=1)→∀f junk,Sub (ka lev) f→R (.exit 1) f (nV (S++[⟨kd,ns.getD 0 0,ns.getD 1 0⟩]) r++junk))
  (hkids:∀(k c a:Int) (n:Nat),(w=kR∧k=0∧c=0∧a=0∧n=0∨w=nt∧k=1∧c=ns.getD 0 0∧a=ns.getD 1 0∧n=2∨w=mh∧k=2∧c=0∧a=0∧ns.getD 0 0=n∧1≤n∧n≤1024) →
   Aw ctx iu 111 1 G0 R ((14,.pv (.int .i64 n))::ka lev) [aF r,aE,kB k c a S []])
  (hbad:w=mh→¬(1≤ns.getD 0 0∧ns.getD 0 0≤1024)→∀f junk,R (.panic cw) f (aF r::junk)) :
  Aw ctx iu 111 1 G1 R ((9,.pv (.str w))::(10,.pv (cY ns))::ka lev) (nV S r):=by
 unfold arity at ha;unfold G1;by_cases h1:w=xn
 ·subst h1;simp only[if_true,Option.some.injEq]at ha;match ns,ha with
  |[a,b],_ =>
   cases S with
   |nil =>
    unfold ka;dsimp only[nV,cY];simp only[xn,qd,nu,List.append_nil,List.cons_append,List.nil_append,List.map_cons,List.map_nil,List.length_cons,List.length_nil];refine aZ ?_;dsimp only[go_sem];try dsimp only[go_sem]
    refine⟨(by simp[vb]<;>omega),(by simp[vb]<;>omega),?_⟩;refine bJ ?_;refine aZ ?_;dsimp only[go_sem];try dsimp only[go_sem]
    refine⟨(by simp[vb]<;>omega),(by simp[vb]<;>omega),?_⟩;refine bS ?_;iterate 7 first
     |refine⟨fun _=>?_,fun h=>by simp at h<;>omega⟩
     |refine⟨by simp[vb]<;>omega,by simp[vb]<;>omega,?_⟩
     |(refine aZ ?_;iterate 2 (try dsimp only[go_sem]))
    exact hstep 0 (.inl ⟨rfl,rfl⟩) _ [] (by (repeat' (first|exact trivial|refine And.intro (by first|rfl|(simp[get,Nat.beq,ka]<;>omega)|(dsimp only[get];congr 1<;>first|rfl|omega|(simp<;>omega))) ?_)))
   |cons s l =>
    simp only[List.length_cons]at hS;unfold ka;dsimp only[nV,cY];simp only[xn,kT,kS,List.append_nil,List.cons_append,List.nil_append,List.map_cons,List.map_nil,List.length_cons,List.length_nil];refine aZ ?_;dsimp only[go_sem];try dsimp only[go_sem]
    refine⟨(by simp[vb]<;>omega),(by simp[vb]<;>omega),?_⟩;refine bJ ?_;refine aZ ?_;dsimp only[go_sem];try dsimp only[go_sem]
    refine⟨(by simp[vb]<;>omega),(by simp[vb]<;>omega),?_⟩;refine bS ?_;iterate 7 first
     |refine⟨fun _=>?_,fun h=>by simp at h<;>omega⟩
     |refine⟨by simp[vb,bu,qS]<;>omega,by simp[vb,bu,qS]<;>omega,?_⟩
     |(refine aZ ?_;iterate 2 (try dsimp only[go_sem]))
    refine FY (hstep 0 (.inl ⟨rfl,rfl⟩) _ [] (by (repeat' (first|exact trivial|refine And.intro (by first|rfl|(simp[get,Nat.beq,ka]<;>omega)|(dsimp only[get];congr 1<;>first|rfl|omega|(simp<;>omega))) ?_)))) ?_;simp[nV,tB,sM,aw]
  |[],h=>cases h
  |[_],h=>cases h
  |_::_::_::_,h=>cases h
 rw[if_neg h1]at ha;by_cases h2:w=nr
 ·subst h2;simp only[if_true,Option.some.injEq]at ha;match ns,ha with
  |[a,b],_ =>
   cases S with
   |nil =>
    unfold ka;dsimp only[nV,cY];simp only[nr,qd,nu,List.append_nil,List.cons_append,List.nil_append,List.map_cons,List.map_nil,List.length_cons,List.length_nil];refine aZ ?_;dsimp only[go_sem];try dsimp only[go_sem]
    refine⟨(by simp[vb]<;>omega),(by simp[vb]<;>omega),?_⟩;refine bJ ?_;refine aZ ?_;dsimp only[go_sem];try dsimp only[go_sem]
    refine⟨(by simp[vb]<;>omega),(by simp[vb]<;>omega),?_⟩;refine bS ?_;iterate 6 first
     |refine⟨fun h=>by simp at h<;>omega,fun _=>?_⟩
     |refine⟨by simp[vb]<;>omega,by simp[vb]<;>omega,?_⟩
     |(refine aZ ?_;iterate 2 (try dsimp only[go_sem]))
    iterate 5 first
     |refine⟨fun _=>?_,fun h=>by simp at h<;>omega⟩
     |refine⟨by simp[vb]<;>omega,by simp[vb]<;>omega,?_⟩
     |(refine aZ ?_;iterate 2 (try dsimp only[go_sem]))
    exact hstep 1 (.inr ⟨rfl,rfl⟩) _ [] (by (repeat' (first|exact trivial|refine And.intro (by first|rfl|(simp[get,Nat.beq,ka]<;>omega)|(dsimp only[get];congr 1<;>first|rfl|omega|(simp<;>omega))) ?_)))
   |cons s l =>
    simp only[List.length_cons]at hS;unfold ka;dsimp only[nV,cY];simp only[nr,kT,kS,List.append_nil,List.cons_append,List.nil_append,List.map_cons,List.map_nil,List.length_cons,List.length_nil];refine aZ ?_;dsimp only[go_sem];try dsimp only[go_sem]
    refine⟨(by simp[vb]<;>omega),(by simp[vb]<;>omega),?_⟩;refine bJ ?_;refine aZ ?_;dsimp only[go_sem];try dsimp only[go_sem]
    refine⟨(by simp[vb]<;>omega),(by simp[vb]<;>omega),?_⟩;refine bS ?_;iterate 6 first
     |refine⟨fun h=>by simp at h<;>omega,fun _=>?_⟩
     |refine⟨by simp[vb,bu,qS]<;>omega,by simp[vb,bu,qS]<;>omega,?_⟩
     |(refine aZ ?_;iterate 2 (try dsimp only[go_sem]))
    iterate 5 first
     |refine⟨fun _=>?_,fun h=>by simp at h<;>omega⟩
     |refine⟨by simp[vb,bu,qS]<;>omega,by simp[vb,bu,qS]<;>omega,?_⟩
     |(refine aZ ?_;iterate 2 (try dsimp only[go_sem]))
    refine FY (hstep 1 (.inr ⟨rfl,rfl⟩) _ [] (by (repeat' (first|exact trivial|refine And.intro (by first|rfl|(simp[get,Nat.beq,ka]<;>omega)|(dsimp only[get];congr 1<;>first|rfl|omega|(simp<;>omega))) ?_)))) ?_;simp[nV,tB,sM,aw]
  |[],h=>cases h
  |[_],h=>cases h
  |_::_::_::_,h=>cases h
 rw[if_neg h2]at ha;by_cases h3:w=kR
 ·subst h3;simp only[if_true,Option.some.injEq]at ha;match ns,ha with
  |[],_ =>
   cases S with
   |nil =>
    unfold ka;dsimp only[nV,cY];simp only[kR,qd,nu,List.append_nil,List.cons_append,List.nil_append,List.map_cons,List.map_nil,List.length_cons,List.length_nil];refine aZ ?_;dsimp only[go_sem];try dsimp only[go_sem]
    refine⟨(by simp[vb]<;>omega),(by simp[vb]<;>omega),?_⟩;refine bJ ?_;refine aZ ?_;dsimp only[go_sem];try dsimp only[go_sem]
    refine⟨(by simp[vb]<;>omega),(by simp[vb]<;>omega),?_⟩;refine bS ?_;iterate 17 first
     |refine⟨fun h=>by simp at h<;>omega,fun _=>?_⟩
     |refine⟨by simp[vb]<;>omega,by simp[vb]<;>omega,?_⟩
     |(refine aZ ?_;iterate 2 (try dsimp only[go_sem]))
    exact bz ((14,.pv (.int .i64 (0:Nat)))::ka lev) (by (repeat' (first|exact trivial|refine And.intro (by first|rfl|(simp[get,Nat.beq,ka]<;>omega)|(dsimp only[get];congr 1<;>first|rfl|omega|(simp<;>omega))) ?_))) (lC 0 0 0 _ r (fun _=>rfl) rfl (hkids 0 0 0 0 (.inl ⟨rfl,rfl,rfl,rfl,rfl⟩)))
   |cons s l =>
    unfold ka;dsimp only[nV,cY];simp only[kR,kT,kS,List.append_nil,List.cons_append,List.nil_append,List.map_cons,List.map_nil,List.length_cons,List.length_nil];refine aZ ?_;dsimp only[go_sem];try dsimp only[go_sem]
    refine⟨(by simp[vb]<;>omega),(by simp[vb]<;>omega),?_⟩;refine bJ ?_;refine aZ ?_;dsimp only[go_sem];try dsimp only[go_sem]
    refine⟨(by simp[vb]<;>omega),(by simp[vb]<;>omega),?_⟩;refine bS ?_;iterate 17 first
     |refine⟨fun h=>by simp at h<;>omega,fun _=>?_⟩
     |refine⟨by simp[vb]<;>omega,by simp[vb]<;>omega,?_⟩
     |(refine aZ ?_;iterate 2 (try dsimp only[go_sem]))
    exact bz ((14,.pv (.int .i64 (0:Nat)))::ka lev) (by (repeat' (first|exact trivial|refine And.intro (by first|rfl|(simp[get,Nat.beq,ka]<;>omega)|(dsimp only[get];congr 1<;>first|rfl|omega|(simp<;>omega))) ?_))) (lC 0 0 0 _ r (fun _=>rfl) rfl (hkids 0 0 0 0 (.inl ⟨rfl,rfl,rfl,rfl,rfl⟩)))
  |_::_,h=>cases h
 rw[if_neg h3]at ha;by_cases h4:w=nt
 ·subst h4;simp only[if_true,Option.some.injEq]at ha;match ns,ha with
  |[a,b],_ =>
   cases S with
   |nil =>
    unfold ka;dsimp only[nV,cY];simp only[nt,qd,nu,List.append_nil,List.cons_append,List.nil_append,List.map_cons,List.map_nil,List.length_cons,List.length_nil];refine aZ ?_;dsimp only[go_sem];try dsimp only[go_sem]
    refine⟨(by simp[vb]<;>omega),(by simp[vb]<;>omega),?_⟩;refine bJ ?_;refine aZ ?_;dsimp only[go_sem];try dsimp only[go_sem]
    refine⟨(by simp[vb]<;>omega),(by simp[vb]<;>omega),?_⟩;refine bS ?_;iterate 10 first
     |refine⟨fun h=>by simp at h<;>omega,fun _=>?_⟩
     |refine⟨by simp[vb]<;>omega,by simp[vb]<;>omega,?_⟩
     |(refine aZ ?_;iterate 2 (try dsimp only[go_sem]))
    refine aZ ?_;dsimp only[go_sem];refine⟨fun _=>?_,fun h=>by simp at h<;>omega⟩;refine aZ ?_;dsimp only[go_sem];try dsimp only[go_sem]
    refine⟨(by simp[vb]<;>omega),(by simp[vb]<;>omega),(by first|rfl|trivial),?_⟩;exact bz ((14,.pv (.int .i64 (2:Nat)))::ka lev) (by (repeat' (first|exact trivial|refine And.intro (by first|rfl|(simp[get,Nat.beq,ka]<;>omega)|(dsimp only[get];congr 1<;>first|rfl|omega|(simp<;>omega))) ?_))) (lC 1 a b _ r (fun _=>rfl) rfl (hkids 1 a b 2 (.inr (.inl ⟨rfl,rfl,rfl,rfl,rfl⟩))))
   |cons s l =>
    unfold ka;dsimp only[nV,cY];simp only[nt,kT,kS,List.append_nil,List.cons_append,List.nil_append,List.map_cons,List.map_nil,List.length_cons,List.length_nil];refine aZ ?_;dsimp only[go_sem];try dsimp only[go_sem]
    refine⟨(by simp[vb]<;>omega),(by simp[vb]<;>omega),?_⟩;refine bJ ?_;refine aZ ?_;dsimp only[go_sem];try dsimp only[go_sem]
    refine⟨(by simp[vb]<;>omega),(by simp[vb]<;>omega),?_⟩;refine bS ?_;iterate 10 first
     |refine⟨fun h=>by simp at h<;>omega,fun _=>?_⟩
     |refine⟨by simp[vb]<;>omega,by simp[vb]<;>omega,?_⟩
     |(refine aZ ?_;iterate 2 (try dsimp only[go_sem]))
    refine aZ ?_;dsimp only[go_sem];refine⟨fun _=>?_,fun h=>by simp at h<;>omega⟩;refine aZ ?_;dsimp only[go_sem];try dsimp only[go_sem]
    refine⟨(by simp[vb]<;>omega),(by simp[vb]<;>omega),(by first|rfl|trivial),?_⟩;exact bz ((14,.pv (.int .i64 (2:Nat)))::ka lev) (by (repeat' (first|exact trivial|refine And.intro (by first|rfl|(simp[get,Nat.beq,ka]<;>omega)|(dsimp only[get];congr 1<;>first|rfl|omega|(simp<;>omega))) ?_))) (lC 1 a b _ r (fun _=>rfl) rfl (hkids 1 a b 2 (.inr (.inl ⟨rfl,rfl,rfl,rfl,rfl⟩))))
  |[],h=>cases h
  |[_],h=>cases h
  |_::_::_::_,h=>cases h
 rw[if_neg h4]at ha;by_cases h5:w=mh
 ·subst h5;simp only[if_true,Option.some.injEq]at ha;match ns,ha with
  |[a],_ =>
   cases S with
   |nil =>
    unfold ka;dsimp only[nV,cY];simp only[mh,qd,nu,List.append_nil,List.cons_append,List.nil_append,List.map_cons,List.map_nil,List.length_cons,List.length_nil];refine aZ ?_;dsimp only[go_sem];try dsimp only[go_sem]
    refine⟨(by simp[vb]<;>omega),(by simp[vb]<;>omega),?_⟩;refine bJ ?_;refine aZ ?_;dsimp only[go_sem];try dsimp only[go_sem]
    refine⟨(by simp[vb]<;>omega),(by simp[vb]<;>omega),?_⟩;refine bS ?_;iterate 14 first
     |refine⟨fun h=>by simp at h<;>omega,fun _=>?_⟩
     |refine⟨by simp[vb]<;>omega,by simp[vb]<;>omega,?_⟩
     |(refine aZ ?_;iterate 2 (try dsimp only[go_sem]))
    refine aZ ?_;dsimp only[go_sem];refine⟨fun _=>?_,fun h=>by simp at h<;>omega⟩;refine aZ ?_;dsimp only[go_sem];try dsimp only[go_sem]
    refine⟨(by simp[vb]<;>omega),(by simp[vb]<;>omega),(by first|rfl|trivial),?_⟩;by_cases hn:1≤a∧a≤1024
    ·obtain⟨n,rfl⟩:∃n:Nat,a=n:=⟨a.toNat,by omega⟩
     refine fu [(87,fun _=>some (.tup []))] ?_;dsimp only[go_sem];try dsimp only[go_sem]
     refine⟨(by simp[vb]<;>omega),?_,?_⟩
     ·exact⟨ke (by simp;omega),by simp[aM,aG]⟩
     exact bz ((14,.pv (.int .i64 n))::ka lev) (by (repeat' (first|exact trivial|refine And.intro (by first|rfl|(simp[get,Nat.beq,ka]<;>omega)|(dsimp only[get];congr 1<;>first|rfl|omega|(simp<;>omega))) ?_))) (lC 2 0 0 _ r (fun _=>rfl) rfl (hkids 2 0 0 n (.inr (.inr ⟨rfl,rfl,rfl,rfl,rfl,by omega,by omega⟩))))
    ·refine fT 7 true [] ?_;simp only[iF,List.take_succ_cons,List.take_zero,List.getElem?_cons_succ,List.getElem?_cons_zero,go_sem,jz];exact⟨by simp[aG,lI,fX],by simp[aG,aM],cw,_,gK (by simp;omega) (by simp[aP,ck,aF,aE]),fun μ1 e=>by rw[e];exact hbad rfl hn _ _⟩
   |cons s l =>
    unfold ka;dsimp only[nV,cY];simp only[mh,kT,kS,List.append_nil,List.cons_append,List.nil_append,List.map_cons,List.map_nil,List.length_cons,List.length_nil];refine aZ ?_;dsimp only[go_sem];try dsimp only[go_sem]
    refine⟨(by simp[vb]<;>omega),(by simp[vb]<;>omega),?_⟩;refine bJ ?_;refine aZ ?_;dsimp only[go_sem];try dsimp only[go_sem]
    refine⟨(by simp[vb]<;>omega),(by simp[vb]<;>omega),?_⟩;refine bS ?_;iterate 14 first
     |refine⟨fun h=>by simp at h<;>omega,fun _=>?_⟩
     |refine⟨by simp[vb]<;>omega,by simp[vb]<;>omega,?_⟩
     |(refine aZ ?_;iterate 2 (try dsimp only[go_sem]))
    refine aZ ?_;dsimp only[go_sem];refine⟨fun _=>?_,fun h=>by simp at h<;>omega⟩;refine aZ ?_;dsimp only[go_sem];try dsimp only[go_sem]
    refine⟨(by simp[vb]<;>omega),(by simp[vb]<;>omega),(by first|rfl|trivial),?_⟩;by_cases hn:1≤a∧a≤1024
    ·obtain⟨n,rfl⟩:∃n:Nat,a=n:=⟨a.toNat,by omega⟩
     refine fu [(87,fun _=>some (.tup []))] ?_;dsimp only[go_sem];try dsimp only[go_sem]
     refine⟨(by simp[vb]<;>omega),?_,?_⟩
     ·exact⟨ke (by simp;omega),by simp[aM,aG]⟩
     exact bz ((14,.pv (.int .i64 n))::ka lev) (by (repeat' (first|exact trivial|refine And.intro (by first|rfl|(simp[get,Nat.beq,ka]<;>omega)|(dsimp only[get];congr 1<;>first|rfl|omega|(simp<;>omega))) ?_))) (lC 2 0 0 _ r (fun _=>rfl) rfl (hkids 2 0 0 n (.inr (.inr ⟨rfl,rfl,rfl,rfl,rfl,by omega,by omega⟩))))
    ·refine fT 7 true [] ?_;simp only[iF,List.take_succ_cons,List.take_zero,List.getElem?_cons_succ,List.getElem?_cons_zero,go_sem,jz];exact⟨by simp[aG,lI,fX],by simp[aG,aM],cw,_,gK (by simp;omega) (by simp[aP,ck,aF,aE]),fun μ1 e=>by rw[e];exact hbad rfl hn _ _⟩
  |[],h=>cases h
  |_::_::_,h=>cases h
 rw[if_neg h5]at ha;cases ha
theorem xq (lev:Int) (S:List aS) (ls:List Ln) {R:Exit→AF→AM→Prop} (hp:eQ ctx 57 [.ptr 0 0 0] (nV S ls) cw (fun μ=>∃r junk,μ=aF r::junk)) (hbad:∀f r junk,R (.panic cw) f (aF r::junk)) :
  Aw ctx iu 111 1 ER R (ka lev) (nV S ls):=by
 unfold ER ka;refine bJ ?_;refine fT 1 true [] ?_;simp only[iF,List.take_succ_cons,List.take_zero,List.getElem?_cons_succ,List.getElem?_cons_zero,go_sem,jz];exact⟨by simp[aG],trivial,cw,_,hp,fun μ1 ⟨r,junk,e⟩=>by rw[e];exact hbad _ _ _⟩
theorem By (x:Ln) (w:Ln) (ns:List Int) (h:nq x=some (w,ns)):ns.length≤x.length:=by
 unfold nq at h;have hb:=(lB 32 x).1;cases hs:mF 32 x with
 |nil=>rw[hs]at h;cases h
 |cons a t =>
  rw[hs]at h hb;simp only at h;cases hn:fO t with
  |none=>rw[hn]at h;cases h
  |some l =>
   rw[hn]at h;injection h with h
   injection h with h1 h2
   subst h2;rw[qc _ _ hn];simp at hb;omega
theorem uu {tf:List Ln→Option (Tree×List Ln)} (h:∀ls t r,tf ls=some (t,r)→r <:+ ls):∀(n:Nat) (ls:List Ln) (ts:List Tree) (r:List Ln),ir tf n ls=some (ts,r)→r <:+ ls
 |0,ls,ts,r,e=>by injection e with e;injection e with _ e;subst e;exact List.suffix_refl _
 |n+1,ls,ts,r,e=>by
  rw[ir]at e;split at e
  ·rename_i t r1 h1;split at e
   ·rename_i ts' r2 h2;injection e with e
    injection e with _ e
    subst e;exact(uu h n r1 ts' r2 h2).trans (h _ _ _ h1)
   ·cases e
  ·cases e
theorem qe:∀(f:Nat) (lev:Int) (S:List aS) (ls:List Ln) (t:Tree) (r:List Ln),fG f lev S ls=some (t,r)→r <:+ ls
 |0,_,_,_,_,_,e=>by cases e
 |f+1,lev,S,ls,t,r,e=>by
  have ih:∀(S:List aS) (ls:List Ln) (t:Tree) (r:List Ln),fG f lev S ls=some (t,r)→r <:+ ls:=fun S ls t r=>qe f lev S ls t r
  have ihk:∀(ls:List Ln) (t:Tree) (r:List Ln),(if lev+1≤4096 then fG f (lev+1) [] ls else none)=some (t,r)→r <:+ ls:=fun ls t r h=>by
   split at h
   ·exact qe f (lev+1) [] ls t r h
   ·cases h
  have one:∀(n:Nat) (x:Ln) (l:List Ln) (g:List Tree→Tree),(match ir (fun l=>if lev+1≤4096 then fG f (lev+1) [] l else none) n l with|some (ks,r')=>some (g ks,r')|none=>none)=some (t,r)→r <:+ x::l:=fun n x l g h=>by
   split at h
   ·rename_i ks r' hk;injection h with h
    injection h with _ h
    subst h;exact(uu ihk _ _ _ _ hk).trans (List.suffix_cons _ _)
   ·cases h
  cases ls with
  |nil=>cases e
  |cons x l =>
   rw[fG]at e;split at e
   ·cases e
   ·rename_i w ns hl;split at e
    ·exact(ih _ _ _ _ e).trans (List.suffix_cons _ _)
    ·split at e
     ·exact(ih _ _ _ _ e).trans (List.suffix_cons _ _)
     ·split at e
      ·injection e with e
       injection e with _ e
       subst e;exact List.suffix_cons _ _
      ·split at e
       ·exact one _ _ _ _ e
       ·split at e
        ·exact one _ _ _ _ e
        ·cases e
theorem lD {w:Ln} {n k:Nat} (h:arity w=some n) (hk:arity w=some k):n=k:=by
 rw[hk]at h;injection h with h
 exact h.symm
theorem Bz {w:Ln} {n:Nat} (h:arity w≠some n):¬(w=xn∧n=2)∧¬(w=nr∧n=2)∧¬(w=kR∧n=0)∧¬(w=nt∧n=2)∧¬(w=mh∧n=1):=by
 refine⟨?_,?_,?_,?_,?_⟩<;>(rintro⟨rfl,rfl⟩;exact h rfl)
theorem Ai (f:Nat) (ih:∀j,j<f→∀(lev:Int) (ls:List Ln) (tl:AM),-1000≤lev→lev≤4500→ls.length<j→ls.length≤900000→(∀x∈ls,x.length≤100000)→oF lev (kx j lev ls) ls tl)
  (lev:Int) (hlev: -1000≤lev∧lev≤4096) (ls:List Ln) (hf:ls.length<f) (hn:ls.length≤900000) (hx:∀x∈ls,x.length≤100000) {R:Exit→AF→AM→Prop}
  (hbad:fG f lev [] ls=none→∀f r junk,R (.panic cw) f (aF r::junk))
  (hgood:∀t r,fG f lev [] ls=some (t,r)→∀f junk,get f 6= .ptr 1 0 0→R .ret f (aF r::ae t::junk)) :
  Aw ctx iu 111 1 GZ R (ka lev) (nV [] ls):=by
 unfold GZ;refine bS ?_;refine cC (fun s:Nat×List aS×List Ln=>s.1≤f∧s.2.2.length<s.1∧s.2.1.length+s.2.2.length≤900000∧s.2.2 <:+ ls∧fG f lev [] ls=fG s.1 lev s.2.1 s.2.2)
  (fun _=>ka lev) (fun s=>nV s.2.1 s.2.2) (fun s=>s.1) (f,[],ls) ⟨Nat.le_refl _,hf,by simpa using hn,List.suffix_refl _,rfl⟩ (by (repeat' (first|exact trivial|refine And.intro (by first|rfl|(simp[get,Nat.beq,ka]<;>omega)|(dsimp only[get];congr 1<;>first|rfl|omega|(simp<;>omega))) ?_))) ⟨[],(List.append_nil _).symm⟩ (fun s _=>?_) fun s hs=>?_
 ·obtain⟨j,S,r⟩:=s;cases S with
  |nil=>exact⟨by simp[nV],rfl,rfl⟩
  |cons n l=>exact⟨by simp[nV],rfl,by simp[nV,tB,sM,aP,aF,aE,ck]⟩
 obtain⟨j,S,r⟩:=s;obtain⟨h1,h2,h3,h4,h5⟩:=hs;simp only at h1 h2 h3 h4 h5 ⊢;obtain⟨j,rfl⟩:∃i,j=i+1:=⟨j-1,by omega⟩
 refine bS ?_;have hxr:∀x∈r,x.length≤100000:=fun x hm=>hx x (h4.subset hm)
 cases r with
 |nil =>
  have hb:=hbad (h5.trans rfl);exact xq lev S [] ((xp _).mono fun μ e=>⟨_,_,e⟩) fun f r junk=>hb f r junk
 |cons x r =>
  have hx1:=hxr x (by simp);simp only[List.length_cons]at h2 h3;rw[fG]at h5;cases hl:nq x with
  |none =>
   rw[hl]at h5;exact xq lev S (x::r) ((xo x r _ hx1 (by omega) hl).mono fun μ e=>⟨_,_,e⟩) fun f r junk=>hbad h5 f r junk
  |some p =>
   obtain⟨w,ns⟩:=p;rw[hl]at h5;simp only at h5;have hnl:=By x w ns hl;have dis:∀{u v:Ln} {k:Nat},u≠v→¬(u=v∧ns.length=k):=fun h h2=>h h2.1
   refine Bx lev S x r hx1 (by omega) w ns hl (by omega) (fun ha f junk=>hbad ?_ f r junk) fun ha=>?_
   ·obtain⟨a1,a2,a3,a4,a5⟩:=Bz ha;rw[h5,if_neg a1,if_neg a2,if_neg a3,if_neg a4,if_neg fun h=>a5 ⟨h.1,h.2.1⟩]
   refine EU lev S (by omega) r w ns ha (fun kd hk f' junk hsub=>?_) (fun k c a n hk=>?_) fun hw hnn f' junk=>hbad ?_ f' r junk
   ·refine⟨(j,S++[⟨kd,ns.getD 0 0,ns.getD 1 0⟩],r),by simp,⟨by simp;omega,by simp;omega,by simp;omega,(List.suffix_cons _ _).trans h4,?_⟩,hsub,junk,rfl⟩;rw[h5];rcases hk with⟨rfl,rfl⟩|⟨rfl,rfl⟩
    ·rw[if_pos ⟨rfl,lD ha (k:=2) rfl⟩]
    ·rw[if_neg (dis (by decide)),if_pos ⟨rfl,lD ha (k:=2) rfl⟩]
   ·have h6:fG f lev [] ls=match ir (kx j (lev+1)) n r with|some (ks,r')=>some (.node k S c a ks,r')|none=>none:=by
     rw[h5];rcases hk with⟨rfl,rfl,rfl,rfl,rfl⟩|⟨rfl,rfl,rfl,rfl,rfl⟩|⟨rfl,rfl,rfl,rfl,hn0,hn1,hn2⟩
     ·rw[if_neg (dis (by decide)),if_neg (dis (by decide)),if_pos ⟨rfl,lD ha (k:=0) rfl⟩];rfl
     ·rw[if_neg (dis (by decide)),if_neg (dis (by decide)),if_neg (dis (by decide)),if_pos ⟨rfl,lD ha (k:=2) rfl⟩];rfl
     ·rw[if_neg (dis (by decide)),if_neg (dis (by decide)),if_neg (dis (by decide)),if_neg (dis (by decide)),if_pos ⟨rfl,lD ha (k:=1) rfl,by omega,by omega⟩,show(ns.getD 0 0).toNat=n by omega];rfl
    refine ET lev ⟨hlev.1,by omega⟩ k c a S n (by omega) r (kx j (lev+1)) (fun ls' t r' h=>?_) (fun ls' tl hs=>?_) (fun hk2 f' r' junk=>?_) fun ts r' hk2 hs f' junk hg=>?_
    ·unfold kx at h;split at h
     ·exact qe _ _ _ _ _ _ h
     ·cases h
    ·have:=hs.length_le;exact ih j (by omega) (lev+1) ls' tl (by omega) (by omega) (by omega) (by omega) fun x hm=>hxr x (List.mem_cons_of_mem _ (hs.subset hm))
    ·rw[hk2]at h6;exact hbad h6 f' r' junk
    ·rw[hk2]at h6;exact hgood _ _ h6 f' junk hg
   ·subst hw;rw[h5,if_neg (dis (by decide)),if_neg (dis (by decide)),if_neg (dis (by decide)),if_neg (dis (by decide)),if_neg fun h=>hnn h.2.2]
theorem y9 (f:Nat) (ih:∀j,j<f→∀(lev:Int) (ls:List Ln) (tl:AM),-1000≤lev→lev≤4500→ls.length<j→ls.length≤900000→(∀x∈ls,x.length≤100000)→oF lev (kx j lev ls) ls tl)
  (lev:Int) (ls:List Ln) (h1: -1000≤lev) (h2:lev≤4500) (hf:ls.length<f) (hn:ls.length≤900000) (hx:∀x∈ls,x.length≤100000):oF lev (kx f lev ls) ls []:=by
 unfold kx;by_cases hl:lev≤4096
 ·rw[if_pos hl];cases hnf:fG f lev [] ls with
  |none =>
   refine nc (C:=ctx) (Fn.of GY rfl) rfl ?_;refine ur lev hl ls ?_;refine Ai f ih lev ⟨h1,hl⟩ ls hf hn hx (fun _ f r junk=>⟨rfl,[aF r],junk,rfl,Nat.le_refl _,rfl,r,rfl⟩) fun t r h=>by rw[hnf]at h;cases h
  |some p =>
   obtain⟨t,r⟩:=p;refine bo (C:=ctx) (Fn.of GY rfl) rfl (by simp) rfl rfl ?_;refine ur lev hl ls ?_;refine Ai f ih lev ⟨h1,hl⟩ ls hf hn hx (fun h=>by rw[hnf]at h;cases h) fun t' r' h f junk hg=>?_
   rw[hnf]at h;injection h with h
   injection h with e1 e2
   subst e1 e2;refine⟨?_,ae t::junk,rfl⟩;simp only[l5,bw,go_sem,hg,ae];exact⟨by simp[aG],rfl⟩
 ·rw[if_neg hl];have hd:decide (lev≤4096)=false:=by simp;omega
  refine nc (C:=ctx) (Fn.of GY rfl) rfl ?_;unfold Ix;iterate 6 first
   |refine⟨by simp[vb]<;>omega,by simp[vb]<;>omega,?_⟩
   |(refine aZ ?_;iterate 2 (try dsimp only[go_sem]))
  refine bJ ?_;refine fT 3 true [] ?_;simp only[iF,List.take_succ_cons,List.take_zero,List.getElem?_cons_succ,List.getElem?_cons_zero,go_sem,jz];exact⟨by simp[aG],by simp[aG,aM],cw,_,gK hd (by simp[aP,ck,aF]),fun μ1 e=>by rw[e];exact⟨rfl,[aF ls],[_,_],rfl,Nat.le_refl _,rfl,ls,rfl⟩⟩
theorem EV:∀(f:Nat) (lev:Int) (ls:List Ln) (tl:AM),-1000≤lev→lev≤4500→ls.length<f→ls.length≤900000→(∀x∈ls,x.length≤100000)→oF lev (kx f lev ls) ls tl:=by
 intro f;induction f using Nat.strongRecOn with
 |ind f ih =>
  intro lev ls tl h1 h2 hf hn hx;have h:=y9 f ih lev ls h1 h2 hf hn hx;cases ho:kx f lev ls with
  |none =>
   rw[ho]at h;have:=eQ.frame h [0] (aF ls::tl) (by simp) (by simp) ⟨rfl,trivial⟩ rfl (by simp[ck,Nat.blt]) (by rintro _ ⟨r,rfl⟩;simp);exact this.mono fun μ ⟨μs,⟨r,h3⟩,h4⟩=>⟨r,by subst h3;rw[h4,sG]⟩
  |some p =>
   obtain⟨t,r⟩:=p;rw[ho]at h;have:=aN.frame h [0] (aF ls::tl) (by simp) (by simp) ⟨rfl,trivial⟩ rfl (by simp[ck,Nat.blt]) (by simp);rw[sG]at this;exact this
end Pur
end
section
namespace Rf
def c8 (p:List Nat):Nat:=p.getLastD 0
def Dk (n:Nat) (e:Nat→Nat→Bool) (p:List Nat):List (List Nat):=((List.range n).filter fun u=>e (c8 p) u&& !decide (u∈p)).map fun u=>p++[u]
def fP (n:Nat) (e:Nat→Nat→Bool) (ps:List (List Nat)):List (List Nat):=ps.flatMap (Dk n e)
def lvl (n:Nat) (e:Nat→Nat→Bool) (a:Nat):Nat→List (List Nat)
 |0=>[[a]]
 |k+1=>fP n e (lvl n e a k)
inductive SP (n:Nat) (e:Nat→Nat→Bool) (a:Nat):List Nat→Prop
 |one:SP n e a [a]
 |snoc {p:List Nat} {u:Nat}:SP n e a p→u<n→e (c8 p) u=true→u ∉ p→SP n e a (p++[u])
theorem oG (p:List Nat) (u:Nat):c8 (p++[u])=u:=by simp[c8]
theorem sI {n:Nat} {e:Nat→Nat→Bool} {p q:List Nat}:q∈Dk n e p↔∃u,u<n∧e (c8 p) u=true∧u ∉ p∧q=p++[u]:=by
 simp only[Dk,List.mem_map,List.mem_filter,List.mem_range,Bool.and_eq_true,Bool.not_eq_true',decide_eq_false_iff_not];constructor
 ·rintro⟨u,⟨h1,h2,h3⟩,rfl⟩;exact⟨u,h1,h2,h3,rfl⟩
 ·rintro⟨u,h1,h2,h3,rfl⟩;exact⟨u,⟨h1,h2,h3⟩,rfl⟩
theorem za {n:Nat} {e:Nat→Nat→Bool} {a:Nat}:∀(k:Nat) (p:List Nat),p∈lvl n e a k→SP n e a p
 |0,p,h=>by simp[lvl]at h;subst h;exact .one
 |k+1,p,h=>by
  rw[lvl,fP,List.mem_flatMap]at h;obtain⟨q,hq,hp⟩:=h;obtain⟨u,h1,h2,h3,rfl⟩:=sI.mp hp;exact .snoc (za k q hq) h1 h2 h3
theorem Dl {n:Nat} {e:Nat→Nat→Bool} {a:Nat} {p:List Nat} (h:SP n e a p):0<p.length∧p∈lvl n e a (p.length-1):=by
 induction h with
 |one=>simp[lvl]
 |@snoc p u h h1 h2 h3 ih =>
  obtain⟨i1,i2⟩:=ih;refine⟨by simp,?_⟩;obtain⟨k,hk⟩:∃k,p.length=k+1:=⟨p.length-1,by omega⟩
  rw[hk]at i2;rw[List.length_append,hk];show _∈lvl n e a (k+1);rw[lvl,fP,List.mem_flatMap];exact⟨p,i2,sI.mpr ⟨u,h1,h2,h3,rfl⟩⟩
theorem xr {n:Nat} {e:Nat→Nat→Bool} {a:Nat} (ha:a<n) {p:List Nat} (h:SP n e a p):p.Nodup∧∀x∈p,x<n:=by
 induction h with
 |one=>simp[ha]
 |@snoc p u h h1 h2 h3 ih =>
  refine⟨?_,fun x hx=>?_⟩
  ·rw[List.nodup_append];refine⟨ih.1,by simp,fun x hx y hy=>?_⟩;simp at hy;subst hy;intro hxy;subst hxy;exact h3 hx
  ·rcases List.mem_append.mp hx with hx|hx
   ·exact ih.2 x hx
   ·simp at hx;omega
theorem zb:∀(n:Nat) (l:List Nat),l.Nodup→(∀x∈l,x<n)→l.length≤n
 |0,[],_,_=>by simp
 |0,x::l,_,h=>by have:=h x (by simp);omega
 |n+1,l,hn,h=>by
  have h1:=zb n (l.erase n) (hn.erase n) fun x hx=>by
   have:=(List.Nodup.mem_erase_iff hn).mp hx;have:=h x this.2;omega
  have h2:=List.length_erase (a:=n) (l:=l);split at h2<;>omega
theorem EW {n:Nat} {e:Nat→Nat→Bool} {a:Nat} {p:List Nat} (h:SP n e a p):∀c∈p,∃q,SP n e a q∧c8 q=c:=by
 induction h with
 |one=>intro c hc;simp at hc;subst hc;exact⟨_,.one,rfl⟩
 |@snoc p u h h1 h2 h3 ih =>
  intro c hc;rcases List.mem_append.mp hc with hc|hc
  ·exact ih c hc
  ·simp at hc;subst hc;exact⟨_,.snoc h h1 h2 h3,oG _ _⟩
theorem Dm {n:Nat} {e:Nat→Nat→Bool} {a:Nat} {p:List Nat} (h:SP n e a p):Reach n e a (c8 p):=by
 induction h with
 |one=>exact .here
 |@snoc p u h h1 h2 h3 ih=>rw[oG];exact .step ih h1 h2
theorem Dn {n:Nat} {e:Nat→Nat→Bool} {a v:Nat} (h:Reach n e a v):∃p,SP n e a p∧c8 p=v:=by
 induction h with
 |here=>exact⟨_,.one,rfl⟩
 |@step b c h h1 h2 ih =>
  obtain⟨p,hp,rfl⟩:=ih;by_cases hc:c∈p
  ·exact EW hp c hc
  ·exact⟨_,.snoc hp h1 h2 hc,oG _ _⟩
def jC (n:Nat) (e:Nat→Nat→Bool) (v:Nat):Nat→List (List Nat)→Option (List Nat)
 |0,_=>none
 |f+1,ps=>match ps.find? (fun p=>decide (c8 p=v)) with
  |some p=>some p
  |none=>jC n e v f (fP n e ps)
theorem uv {n:Nat} {e:Nat→Nat→Bool} {a v:Nat}:∀(f k:Nat),(jC n e v f (lvl n e a k)).isSome=true↔∃j p,k≤j∧j<k+f∧p∈lvl n e a j∧c8 p=v
 |0,k=>by
  simp only[jC,Option.isSome_none,Bool.false_eq_true,false_iff];rintro⟨j,p,h1,h2,-⟩;omega
 |f+1,k=>by
  rw[jC];cases hf:(lvl n e a k).find? (fun p=>decide (c8 p=v)) with
  |some p =>
   simp only[Option.isSome_some,true_iff];exact⟨k,p,Nat.le_refl _,by omega,List.mem_of_find?_eq_some hf,by simpa using List.find?_some hf⟩
  |none =>
   simp only;have ih:=uv (n:=n) (e:=e) (a:=a) (v:=v) f (k+1);rw[lvl]at ih;rw[ih];constructor
   ·rintro⟨j,p,h1,h2,h3⟩;exact⟨j,p,by omega,by omega,h3⟩
   ·rintro⟨j,p,h1,h2,h3,h4⟩;refine⟨j,p,?_,by omega,h3,h4⟩;rcases Nat.lt_or_ge k j with h|h
    ·exact h
    ·obtain rfl:j=k:=by omega
     have:=List.find?_eq_none.mp hf p h3;simp[h4]at this
theorem qD {n:Nat} {e:Nat→Nat→Bool} {a v:Nat} (ha:a<n):(jC n e v n [[a]]).isSome=true↔Reach n e a v:=by
 rw[show[[a]]=lvl n e a 0 from rfl,uv];constructor
 ·rintro⟨j,p,-,-,h3,rfl⟩;exact Dm (za j p h3)
 ·intro h;obtain⟨p,hp,rfl⟩:=Dn h;obtain⟨h1,h2⟩:=Dl hp;obtain⟨h3,h4⟩:=xr ha hp;have:=zb n p h3 h4;exact⟨_,p,Nat.zero_le _,by omega,h2,rfl⟩
end Rf
end
section
namespace Pur
open Go.RowKit
attribute [local go_sem] ξ bV gF cd bI cG jK List.map bB aR get put tmpsOf eY oK kY oa conds ev cond_true cond_false Nat.beq Nat.ble Nat.add quiet fc cW dH zP List.append_eq List.nil_append List.cons_append eX gq gr gu gv gw gx kf jM fQ pC gZ calm quiet.isCallK dU List.getElem?_cons_zero List.getElem?_cons_succ cE dM cellsOf List.all bZ List.length_cons List.length_nil jr bC List.drop List.take List.getD Option.getD_some Eb Ec Cn Ed Ee Ef kZ nY k6 k7 setAt List.set Nat.reduceAdd Nat.reduceMul dy ca refsOf bW cS scalar eJ gO cU eI bA after freeze mT l5 bw fS iN jk iB iV iW gf iX iY jb jc jd je jf jg jh ji jj gg gi gj fR pD bytesOf cf fk a8 cH fN bP cF dV still dk gN eC jH cA iC List.isEmpty gk gm gp Int.reduceToNat Nat.mul_one Nat.reduceSub yx fp ef fl fe look fm strip guarded my iE jq eH jG ek mD iZ ja Bool.or_false Bool.or_true Bool.and_true Bool.and_false Nat.blt iz gI j0 dB idxOf kp l6 o4 gy bA tz
section
open Rf
theorem Aj:Tryz.prog.cellsOf 3=1:=by kernel_rfl
theorem JB:Tryz.prog.cellsOf 66=3:=by kernel_rfl
theorem JC:Tryz.prog.cellsOf 25=5:=by kernel_rfl
theorem JO:Tryz.prog.cellsOf 22=1:=by kernel_rfl
theorem JP:Tryz.prog.cellsOf 23=1:=by kernel_rfl
theorem po {n B:Nat} {l:List PV} (h:Typed Tryz.prog B n 3 l):∃x,l=[.int .i64 x]:=by
 obtain⟨x,rfl,hw⟩:=GH h Tryz.underlying3;exact⟨x,rfl⟩
theorem HL {n B:Nat} {l:List PV} (h:Typed Tryz.prog B n 66 l):∃x,l=aw x∧True:=by
 obtain⟨hl,m,rfl,hf⟩:=iO h Tryz.underlying66;rw[JB]at hl;match l,hl with
 |[a,b,c],_ =>
  obtain⟨x,hx⟩:=po (piece hf 0 0 3 Aj rfl);obtain⟨y,hy⟩:=po (piece hf 1 1 3 Aj rfl);obtain⟨z,hz⟩:=po (piece hf 2 2 3 Aj rfl);simp at hx hy hz;subst hx hy hz;exact⟨⟨x,y,z⟩,rfl,trivial⟩
theorem G2 {B:Nat}:∀(n:Nat) (l:List PV),Typed Tryz.prog B n 25 l→∃t,l=cy t∧vy B t:=by
 intro n;induction n using Nat.strongRecOn with
 |ind n ih =>
  intro l h;obtain⟨hl,m,rfl,hf⟩:=iO h Tryz.underlying25;rw[JC]at hl;match l,hl with
  |[a0,a1,a2,a3,a4],_ =>
   obtain⟨x0,e0⟩:=po (piece hf 0 0 3 Aj rfl);have h1:=ij (piece hf 1 1 22 JO rfl) Tryz.underlying22 JB aw (fun _=>True) (fun _ _=>rfl) fun m c _ hc=>HL hc
   obtain⟨x2,e2⟩:=po (piece hf 2 2 3 Aj rfl);obtain⟨x3,e3⟩:=po (piece hf 3 3 3 Aj rfl);have h4:=ij (piece hf 4 4 23 JP rfl) Tryz.underlying23 JC cy (vy B) (fun x _=>c7 x) fun k c hk hc=>ih k (by omega) c hc
   obtain⟨x1,e1,l1,-⟩:=h1;obtain⟨x4,e4,l4,w4⟩:=h4;simp at e0 e1 e2 e3 e4;subst e0 e1 e2 e3 e4;exact⟨.node x0 x1 x2 x3 x4,by rw[fC];rfl,.node _ _ _ _ _ l1 l4 w4⟩
theorem HM {B:Nat} {p:PV} (h:pZ Tryz.prog B 25 p):∃t,p=aA t∧vy B t:=by
 obtain⟨n,l,h',rfl⟩:=C0 h Tryz.underlying25;obtain⟨t,rfl,hw⟩:=G2 n l h';exact⟨t,by rw[sA];rfl,hw⟩
end
section
open Rf
def HN:ay:=(⟨_,by conv=>(lhs;reduce;try simp only[cJ,Int.cast_ofNat_Int,Int.reduceNegSucc,UInt8.reduceOfNat])⟩:{x // codeOf Tryz.prog 39 (fun _=>false)=some x}).1
theorem I9:bp Tryz.prog 39 (fun _=>false)=some (HN,[.t 2],112,true):=by kernel_rfl
def qE (t:Tree):Bool:=t.steps.all bk&&bQ t.kind t.cell t.pos t.kids.length
theorem EX (t:Tree) (hw:wt t≤1000000000):aj ctx 39 [aA t] (.bool (qE t)):=by
 obtain⟨kd,s,c,a,l⟩:=t;rw[bE]at hw;have hl:=dR l;unfold qE;simp only[Tree.kind,Tree.steps,Tree.cell,Tree.pos,Tree.kids];refine af (C:=ctx) (Fn.of I9 rfl) rfl ?_;unfold HN;repeat' (first|((with_reducible first|show aG _|show aM _);simp[vb]<;>omega)|exact(rfl:some _=_)|((fail_if_success refine aT ?_);refine aZ ?_;(repeat1' dsimp only[HN,aA,Tree.kind,Tree.steps,Tree.cell,Tree.pos,Tree.kids,aa,ah,go_sem]);first|refine aU ?_ ?_ rfl ?_|apply aV|apply aW|(refine aX (fun hc=>?_) fun hc=>?_<;>first|(cases hc;done)|(exfalso;simp at hc<;>omega)|(try simp only[bn]at hc;try contradiction))|skip))
 refine bg s.length (fun k=>(s.take k).all bk=true) (fun k=>[(1,.ptr 0 0 0),(7,.pv (aa s)),(8,.pv (.int .i64 s.length)),(9,.pv (.int .i64 k))]) (fun _=>[ae (.node kd s c a l)]) rfl (by (repeat' (first|exact trivial|refine And.intro (by first|rfl|(simp[get,Nat.beq]<;>omega)|(dsimp only[get];congr 1<;>first|rfl|omega|(simp<;>omega))) ?_))) ⟨[],rfl⟩ (fun _=>⟨Nat.zero_le _,rfl,rfl⟩) fun k hk hP=>?_
 by_cases hlt:k<s.length
 ·have e:=bM bu s k zs hlt;have hle:=cR s;have h1:=dh bk s k zs hlt;have h2:=kq bk s k zs hlt;rw[h1,hP,Bool.true_and];clear h1;generalize s.getD k zs=x at *;repeat' (first|((with_reducible show aG _);first|exact True.intro|(simp only[vb,lb,e,hle,hlt,aw];and_intros<;>first|omega|(simp<;>omega)))|((with_reducible show aM _);first|exact True.intro|((try dsimp only[go_sem]);(simp[vb,e,hle,hlt,aw]<;>omega)))|exact(rfl:some _=_)|((fail_if_success refine aT ?_);refine br [ξ 12 (.agg [.int .i64 x.kind,.int .i64 x.index,.int .i64 x.cell])] ?_;(repeat1' dsimp only[HN,ae,Tree.kind,Tree.steps,Tree.cell,Tree.pos,Tree.kids,aa,ah,go_sem]);first|refine aU ?_ ?_ rfl ?_|apply aV|apply aW|(refine aX (fun hc=>?_) fun hc=>?_<;>first|(cases hc;done)|(exfalso;(simp at hc<;>omega))|(try simp only[bn]at hc;try contradiction))|skip))
  all_goals first
   |(rw[h2 (by
     cases h:bk x with
     |false=>rfl
     |true =>
      exfalso;simp only[bk,aL,Bool.and_eq_true,decide_eq_true_eq]at h;split at h<;>omega),Bool.false_and];done)
   |(
    refine⟨hlt,?_,by (repeat' (first|exact trivial|refine And.intro (by first|rfl|(simp[get,Nat.beq]<;>omega)|(dsimp only[get];congr 1<;>first|rfl|omega|(simp<;>omega))) ?_)),_,rfl⟩;simp only[bk,aL,Bool.and_eq_true,decide_eq_true_eq];split<;>omega)
 ·obtain rfl:k=s.length:=by omega
  rw[List.take_length]at hP;repeat' (first|((with_reducible show aG _);first|exact True.intro|(simp only[vb,lb,hlt];and_intros<;>first|omega|(simp<;>omega)))|((with_reducible show aM _);first|exact True.intro|((try dsimp only[go_sem]);(simp[vb,hlt]<;>omega)))|exact(rfl:some _=_)|((fail_if_success refine aT ?_);refine aZ ?_;(repeat1' dsimp only[HN,ae,Tree.kind,Tree.steps,Tree.cell,Tree.pos,Tree.kids,aa,ah,go_sem]);first|refine aU ?_ ?_ rfl ?_|apply aV|apply aW|(refine aX (fun hc=>?_) fun hc=>?_<;>first|(cases hc;done)|(exfalso;(simp at hc<;>omega))|(try simp only[bn]at hc;try contradiction))|skip))
  all_goals
   refine congrArg some (congrArg PV.bool ?_);rw[hP,Bool.true_and,Bool.eq_iff_iff];simp only[ie,bQ,aL];(repeat' split)<;>simp only[Bool.and_eq_true,decide_eq_true_eq,beq_iff_eq,Bool.false_eq_true]<;>omega
def JD:ay:=(⟨_,by conv=>(lhs;cbv;try simp only[cJ,Int.cast_ofNat_Int,Int.reduceNegSucc,UInt8.reduceOfNat])⟩:{x // codeOf Tryz.prog 42 (fun _=>false)=some x}).1
theorem Ja:bp Tryz.prog 42 (fun _=>false)=some (JD,[.t 4],26,true):=by kernel_rfl
def JE:ay:=(⟨_,by conv=>(lhs;reduce;try simp only[cJ,Int.cast_ofNat_Int,Int.reduceNegSucc,UInt8.reduceOfNat])⟩:{x // codeOf Tryz.prog 43 (fun _=>false)=some x}).1
theorem Jb:bp Tryz.prog 43 (fun _=>false)=some (JE,[.t 6],32,true):=by kernel_rfl
def JF:ay:=(⟨_,by conv=>(lhs;reduce;try simp only[cJ,Int.cast_ofNat_Int,Int.reduceNegSucc,UInt8.reduceOfNat])⟩:{x // codeOf Tryz.prog 19 (fun _=>false)=some x}).1
theorem Jc:bp Tryz.prog 19 (fun _=>false)=some (JF,[.t 4],38,true):=by kernel_rfl
end
end Pur
end
end Go.Proofs.YtaleoeblooeglaaGreatDoor
