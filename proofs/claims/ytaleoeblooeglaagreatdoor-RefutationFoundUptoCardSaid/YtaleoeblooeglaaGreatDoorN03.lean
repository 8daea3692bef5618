/-
  RefutationFound: the search for a counterexample ends, and what it names is one
-/
import Derived.Test.YtaleoeblooeglaaGreatDoorN02
import Derived.WalkKit
import Derived.Lib.ItoaNum
import Derived.WalkSpells
import Derived.Lib.Hide
import Derived.Deep.Draws
import Derived.WalkSmall
import Derived.Deep.QuietTactic
import Derived.BigQuiet
import Derived.WalkLawsBesides
import Derived.Test.YtaleoeblooeglaaGreatDoorRows
import Derived.Lib.LaidTab
import Derived.Test.YtaleoeblooeglaaGreatDoorProg
import Derived.Below
import Derived.ChangeSame
import Derived.ProofKit
import Derived.Shelf.Strings.Builder1
import Derived.Shelf.Strings.BuilderF
import Derived.Shelf.Strings.BuilderK
import Derived.Shelf.Utf8.RuneCount
import Derived.Shelf.Strconv.Atoi
import Derived.Shelf.Strconv.Itoa0
import Derived.Shelf.Strconv.Itoa1
import Derived.Shelf.LaysM
import Derived.Shelf.Strconv.Itoa2
import Derived.Shelf.Strconv.Itoa3
import Derived.Shelf.Strconv.AtoiErrFast
import Derived.Shelf.Strconv.ParseIntEmpty
import Derived.Shelf.Strconv.AtoiFail
import Derived.Shelf.Strconv.Clone
import Derived.Shelf.Strconv.SyntaxError
import Derived.Shelf.LaysC
import Derived.Shelf.Strconv.ToError
import Derived.Shelf.Strconv.AtoiErr
import Derived.Shelf.Strconv.ErrVar
import Derived.Shelf.Strconv.Lower
import Derived.Shelf.Strconv.ParseUint10
import Derived.Shelf.Strconv.ParseUint10Empty
import Derived.Shelf.Strconv.ParseUint10Any
import Derived.Shelf.Strconv.ParseInt10
import Derived.Shelf.Strconv.AtoiLong
import Derived.Shelf.Strconv.AtoiInnerAll
import Derived.Shelf.Strconv.RangeError
import Derived.Shelf.Strconv.ToErrorRange
import Derived.Shelf.Strconv.AtoiAll
import Derived.Shelf.Strconv.ErrVarAll
import Derived.Shelf.Strconv.ParseUintEmpty
import Derived.Shelf.Strconv.ParseUint10b64
import Derived.Shelf.Strconv.ParseUint10b32
import Derived.Shelf.Strconv.ParseUint10b16
import Derived.Shelf.Strconv.ParseUint10b8
import Derived.Shelf.Strconv.ParseUint10At
import Derived.Shelf.Strconv.ParseInt10At64
import Derived.Shelf.Strconv.ParseInt10At32
import Derived.Shelf.Strconv.ParseInt10At16
import Derived.Shelf.Strconv.ParseInt10At8
import Derived.Shelf.Strconv.ParseInt10All
import Derived.Shelf.Strings.Search1
import Derived.Shelf.Strings.Search2
import Derived.Shelf.Strings.Search3
import Derived.Shelf.Strings.Count
import Derived.Shelf.Strings.Shaped
import Derived.Shelf.Strings.Split
import Derived.Shelf.Strings.SplitShaped
import Derived.Shelf.Unicode.Decode
import Derived.Shelf.Strings.RuneCount
import Derived.Shelf.Strings.Explode
import Derived.Shelf.Unicode.DecodeSlow
import Derived.Shelf.Unicode.DecodeAny
import Derived.Shelf.Strings.BuilderCap
import Derived.Ground.Names2Prog
import Derived.Shelf.Slices.Clone
import Derived.OpenShut
import Derived.WideKeyArgs
import Derived.Lib.AtoiAll
import Derived.Lib.SmallJoins
import Derived.Shelf.SlSorted.Search
import Derived.Test.YtaleoeblooeglaaGreatDoorCards
import Derived.Test.YtaleoeblooeglaaGreatDoorTie
import Derived.Deep.DeepHandedRow
import Derived.Deep.DeepWitnessRowRef
import Derived.Lay
import Derived.Lib.SplitLaws
import Derived.RangeFuncRecord
import Derived.Lib.ItoaLen
set_option maxRecDepth 10000
set_option maxHeartbeats 32000000
set_option linter.unusedSimpArgs false
set_option linter.unusedVariables false
namespace Go.Proofs.YtaleoeblooeglaaGreatDoor
section
namespace Sch
end Sch
end
section
open Go.RowKit
section
variable {w w':World} {g:Nat} {t:TypeId} {cs:Array Value}
end
end
section
open Go.RowKit
open Sch
end
section
open Go.RowKit
structure Env (w:World):Prop where
 tab : Lib.TabIs Tryz.prog w "internal/strconv.uint64pow10" .u64 Lib.pow10Tab
 syn : ∃ tp p, w.var? Tryz.prog "strconv.ErrSyntax" = some #[.iface tp p]
 ran : ∃ tp p, w.var? Tryz.prog "strconv.ErrRange" = some #[.iface tp p]
 ml:∃m,w.cell? ⟨0,0,none⟩=some (.int .i64 m)
theorem Tryz.Ha : Tryz.prog.globalNamed "internal/strconv.uint64pow10" = some 3 := by kernel_rfl
theorem Tryz.Hb : Tryz.prog.globalNamed "strconv.ErrSyntax" = some 1 := by kernel_rfl
theorem Tryz.Hc : Tryz.prog.globalNamed "strconv.ErrRange" = some 2 := by kernel_rfl
theorem zn {P:Program} {w:World} {name:String} {g:Nat} {cs:Array Value} (hg:P.globalNamed name=some g) (h:w.var? P name=some cs):g<w.heap.size:=by
 apply Classical.byContradiction;intro hn;unfold World.var? at h;rw[hg]at h;simp only[Option.bind_some]at h;rw[Array.getElem?_eq_none (Nat.le_of_not_lt hn)]at h;cases h
theorem E7 {w:World} {g:Nat} {v:Value} (h:w.cell? ⟨g,0,none⟩=some v):g<w.heap.size:=by
 apply Classical.byContradiction;intro hn;unfold World.cell? at h;rw[Array.getElem?_eq_none (Nat.le_of_not_lt hn)]at h;cases h
theorem Env.below {w w':World} (h:Env w) (hb:Below w.heap.size w w'):Env w':=by
 obtain⟨h1,⟨t2,p2,h2⟩,⟨t3,p3,h3⟩,⟨m,h4⟩⟩:=h;exact⟨var?_below hb Tryz.Ha (zn Tryz.Ha h1) h1,⟨t2,p2,var?_below hb Tryz.Hb (zn Tryz.Hb h2) h2⟩,⟨t3,p3,var?_below hb Tryz.Hc (zn Tryz.Hc h3) h3⟩,⟨m,(hb.cell (E7 h4)).trans h4⟩⟩
namespace Pur
noncomputable def ctx:Ctx:=⟨Tryz.prog,Env,fun _ _ h hb=>h.below hb,by kernel_rfl,[]⟩
end Pur
end
section
open Go.RowKit
theorem tQ {P:Program} {W:World} {name:String} {k:IntKind} {zs:List Int} {g:Nat} {t e:TypeId} {n:Nat}
  (hg:P.globalNamed name=some g) (hty:(P.globals[g]?).map (·.type)=some t) (ht:P.underlying t=some (.array n e)) (he:P.underlying e=some (.int k)) (hce:P.cellsOf e=1) (hct:P.cellsOf t=n) :
  ∀(laid:List (String×DataW Unit)) (ps:List MemPlace),DataW.LaidVars P W laid ps→(name,Lib.tabData k zs)∈laid→Lib.TabIs P W name k zs:=by
 intro laid;induction laid with
 |nil=>intro ps _ hm;cases hm
 |cons x rest ih =>
  intro ps h hm;obtain⟨nm,d⟩:=x;obtain⟨g',t',cs,fuel,p,q,hg',ht',hvar,hd,hrest,_⟩:=h;rcases List.mem_cons.1 hm with hm|hm
  ·obtain⟨rfl,rfl⟩:=Prod.mk.inj hm;obtain rfl:=Option.some.inj (hg.symm.trans hg');obtain rfl:=Option.some.inj (hty.symm.trans ht');unfold Lib.TabIs;rw[hvar,←Lib.cells_of_tab ht he hce hct hd]
  exact ih q hrest hm
end
section
open Go.RowKit Go.WideShapes Go.ChangeShapes
theorem zp {H:Type} {enc:TypeId×Value→H} {P:Program} {f:Func} {s:ChangeSpec} {apart fresh handsOn again:Bool} {W W':World} {args:Array Value} {v:Value} {ds gs:List (DataW H)}
  {before pa pv:List MemPlace} (hW:DataW.Whole enc P f.params.toList s.vars apart W args.toList ds gs before)
  (hres:∀(b:Nat) (sp:Nat→Bool) (hd:Bool),DataW.TrodAll enc P W' b sp hd f.resultTypes.toList (v.resultList f.resultTypes.size) (s.fn H (ds++gs)).results [])
  (hargs:∀sp:Nat→Bool,(∀p∈before,sp p.block=true)→DataW.TrodAll enc P W' 0 sp true f.params.toList args.toList (s.fn H (ds++gs)).args pa)
  (hvars:∀sp:Nat→Bool,(∀p∈before,sp p.block=true)→DataW.TrodVars enc P W' sp s.vars (s.fn H (ds++gs)).vars pv)
  (hps:before=pa++pv) (hb:Below W.heap.size W W')
  (hok:∀(j:Nat) (t:TypeId) (r:Value),f.resultTypes[j]?=some t→(v.resultList f.resultTypes.size)[j]?=some r→Value.okWide P W' .any 0 t r) :
  s.post enc P f apart fresh handsOn again W args v W':=by
 have hblk:∀x∈before,x.block<W.heap.size:=fun x hx=>hW.lt x hx
 have hsp:∀x∈before,decide (x.block<W.heap.size)=true:=fun x hx=>decide_eq_true (hblk x hx)
 have hall:∀x∈before,(fun _:Nat=>true) x.block=true:=fun _ _=>rfl
 have hframe:W.keptBut W' fun x=>x∈before∧x∈([]++pa)++pv∨False:=by
  refine World.keptBut_mono (fun x hx=>?_) (hb.frame (·∈before));exact .inl ⟨hx,by rw[List.nil_append,←hps];exact hx⟩
 refine⟨ds,gs,before,[],pa,pv,hW,hres _ _ _,hargs (fun b=>decide (b<W.heap.size)) hsp,hvars (fun b=>decide (b<W.heap.size)) hsp,World.keptBut_mono (fun x hx=>?_) hframe,fun _=>?_⟩
 ·rcases hx with⟨h1,h2⟩|h
  ·refine⟨h1,?_⟩;rw[List.nil_append,←hps]at h2;rw[hps,List.mem_append]at h1;exact Or.inr h1
  exact h.elim
 obtain⟨_,_,_,_,_,hfz,hnd⟩:=hW;have hpl:before=([]++pa)++pv:=by rw[List.nil_append];exact hps
 refine⟨hok,_,_,([]++pa)++pv,⟨[]++pa,pv,trodAll_append (hargs _ hall) (hres _ _ _),hvars _ hall,rfl,fun b off hp=>?_,fun ha=>?_⟩,fun x hx _=>?_⟩
 ·rw[←hpl]at hp;rw[hb.frozen (p:=⟨b,off,none⟩) (hblk _ hp)];exact hfz b off hp
 ·rw[←hpl];exact hnd ha
 rw[hpl];exact hx
end
end Go.Proofs.YtaleoeblooeglaaGreatDoor
namespace Go.Proofs
open Go.Shelf
def Tryz.qK:Go.Shelf.Ren:=⟨fun|169=>52|n=>n,fun|70=>75|9=>9|0=>0|72=>78|37=>76|127=>128|3=>3|5=>5|n=>n,fun|n=>n⟩
theorem Tryz.E8:Go.Proofs.Lays.n169 Tryz.prog Tryz.qK:={
 mixed:=by kernel_rfl
 f169:=Tryz.func52.trans (congrArg some (by kernel_rfl))
 t0:=Tryz.underlying0
 a0:=Tryz.isAgg0
 z0:=Tryz.sizeOf0
 v0:=Tryz.zeroValue0
 t3:=Tryz.underlying3
 a3:=Tryz.isAgg3
 z3:=Tryz.sizeOf3
 v3:=Tryz.zeroValue3
 t9:=Tryz.underlying9
 a9:=Tryz.isAgg9
 z9:=Tryz.sizeOf9
 v9:=Tryz.zeroValue9
 t37:=Tryz.underlying76
 a37:=Tryz.isAgg76
 z37:=Tryz.sizeOf76
 v37:=Tryz.zeroValue76
 t70:=Tryz.underlying75
 a70:=Tryz.isAgg75
 z70:=Tryz.sizeOf75
 v70:=Tryz.zeroValue75
 t72:=Tryz.underlying78
 a72:=Tryz.isAgg78
 z72:=Tryz.sizeOf78
 v72:=Tryz.zeroValue78
 t127:=Tryz.underlying128
 a127:=Tryz.isAgg128
 z127:=Tryz.sizeOf128
 v127:=Tryz.zeroValue128}
theorem Tryz.pf:Builder.Extra Tryz.prog Tryz.qK:={
 sizeBuilder:=by kernel_rfl
 liesBuilder:=by kernel_rfl
 t5:=Tryz.underlying5
 a5:=Tryz.isAgg5
 z5:=Tryz.sizeOf5
 v5:=Tryz.zeroValue5
 infoByte:=by kernel_rfl
 cellsByte:=by kernel_rfl
 sizeByte:=by kernel_rfl
 neB5:=by decide}
def Tryz.vy:Go.Shelf.Ren:=⟨fun|171=>84|243=>112|246=>134|283=>154|284=>155|285=>156|286=>157|129=>169|317=>168|318=>170|319=>171|320=>172|337=>177|338=>178|n=>n,fun|3=>3|9=>9|2=>2|4=>4|171=>196|0=>0|53=>197|37=>76|5=>5|173=>200|212=>213|51=>214|20=>20|213=>215|46=>203|232=>229|233=>230|n=>n,fun|17=>3|18=>6|19=>7|n=>n⟩
theorem Tryz.Df:Go.Proofs.LaysM.n171 Tryz.prog Tryz.vy:={
 mixed:=by kernel_rfl
 f129:=Tryz.func169.trans (congrArg some (by kernel_rfl))
 f171:=Tryz.func84.trans (congrArg some (by kernel_rfl))
 f243:=Tryz.func112.trans (congrArg some (by kernel_rfl))
 f246:=Tryz.func134.trans (congrArg some (by kernel_rfl))
 f283:=Tryz.func154.trans (congrArg some (by kernel_rfl))
 f284:=Tryz.func155.trans (congrArg some (by kernel_rfl))
 f285:=Tryz.func156.trans (congrArg some (by kernel_rfl))
 f286:=Tryz.func157.trans (congrArg some (by kernel_rfl))
 f317:=Tryz.func168.trans (congrArg some (by kernel_rfl))
 f318:=Tryz.func170.trans (congrArg some (by kernel_rfl))
 f319:=Tryz.func171.trans (congrArg some (by kernel_rfl))
 f320:=Tryz.func172.trans (congrArg some (by kernel_rfl))
 f337:=Tryz.func177.trans (congrArg some (by kernel_rfl))
 f338:=Tryz.func178.trans (congrArg some (by kernel_rfl))
 t0:=Tryz.underlying0
 a0:=Tryz.isAgg0
 z0:=Tryz.sizeOf0
 v0:=Tryz.zeroValue0
 t2:=Tryz.underlying2
 a2:=Tryz.isAgg2
 z2:=Tryz.sizeOf2
 v2:=Tryz.zeroValue2
 t3:=Tryz.underlying3
 a3:=Tryz.isAgg3
 z3:=Tryz.sizeOf3
 v3:=Tryz.zeroValue3
 t4:=Tryz.underlying4
 a4:=Tryz.isAgg4
 z4:=Tryz.sizeOf4
 v4:=Tryz.zeroValue4
 t5:=Tryz.underlying5
 a5:=Tryz.isAgg5
 z5:=Tryz.sizeOf5
 v5:=Tryz.zeroValue5
 t9:=Tryz.underlying9
 a9:=Tryz.isAgg9
 z9:=Tryz.sizeOf9
 v9:=Tryz.zeroValue9
 t20:=Tryz.underlying20
 a20:=Tryz.isAgg20
 z20:=Tryz.sizeOf20
 v20:=Tryz.zeroValue20
 t37:=Tryz.underlying76
 a37:=Tryz.isAgg76
 z37:=Tryz.sizeOf76
 v37:=Tryz.zeroValue76
 t46:=Tryz.underlying203
 a46:=Tryz.isAgg203
 z46:=Tryz.sizeOf203
 v46:=Tryz.zeroValue203
 t51:=Tryz.underlying214
 a51:=Tryz.isAgg214
 z51:=Tryz.sizeOf214
 v51:=Tryz.zeroValue214
 t53:=Tryz.underlying197
 a53:=Tryz.isAgg197
 z53:=Tryz.sizeOf197
 v53:=Tryz.zeroValue197
 t171:=Tryz.underlying196
 a171:=Tryz.isAgg196
 z171:=Tryz.sizeOf196
 v171:=Tryz.zeroValue196
 t173:=Tryz.underlying200
 a173:=Tryz.isAgg200
 z173:=Tryz.sizeOf200
 v173:=Tryz.zeroValue200
 t212:=Tryz.underlying213
 a212:=Tryz.isAgg213
 z212:=Tryz.sizeOf213
 v212:=Tryz.zeroValue213
 t213:=Tryz.underlying215
 a213:=Tryz.isAgg215
 z213:=Tryz.sizeOf215
 t232:=Tryz.underlying229
 a232:=Tryz.isAgg229
 z232:=Tryz.sizeOf229
 v232:=Tryz.zeroValue229
 t233:=Tryz.underlying230
 a233:=Tryz.isAgg230
 z233:=Tryz.sizeOf230
 v233:=Tryz.zeroValue230
 g17:=by kernel_rfl
 g18:=by kernel_rfl
 g19:=by kernel_rfl
 i0:=by kernel_rfl
 i2:=by kernel_rfl
 i3:=by kernel_rfl
 i4:=by kernel_rfl
 i5:=by kernel_rfl
 i9:=by kernel_rfl
 i20:=by kernel_rfl
 i37:=by kernel_rfl
 i46:=by kernel_rfl
 i51:=by kernel_rfl
 i53:=by kernel_rfl
 i171:=by kernel_rfl
 i173:=by kernel_rfl
 i212:=by kernel_rfl
 i232:=by kernel_rfl
 i233:=by kernel_rfl
 m17:=by kernel_rfl
 m18:=by kernel_rfl
 m19:=by kernel_rfl}
open Go.RowKit Go.Sort Go.Lib in
theorem Tryz.strconv_Itoa (n : Int) (h0 : -9223372036854775808 ≤ n) (h1 : n ≤ 9223372036854775807) (w : World) (htab : Lib.TabIs Tryz.prog w "internal/strconv.uint64pow10" .u64 Lib.pow10Tab) :
  Calls Tryz.prog 84 #[.int .i64 n] w fun e w'=>e= .returned (.string ⟨(Lib.itoa n).toArray⟩)∧∃k os,w'=grow (w.drewN k) os:=Any.strconv_Itoa Tryz.Df n h0 h1 w htab
def Tryz.vz:Go.Shelf.Ren:=⟨fun|172=>88|244=>116|245=>117|247=>139|279=>140|280=>141|281=>142|282=>143|287=>163|316=>164|171=>84|205=>165|321=>175|322=>176|243=>112|246=>134|283=>154|284=>155|285=>156|286=>157|129=>169|317=>168|318=>170|319=>171|320=>172|337=>177|338=>178|n=>n,fun|9=>9|3=>3|75=>123|76=>124|4=>4|5=>5|167=>179|37=>76|0=>0|85=>180|2=>2|168=>182|53=>197|175=>204|46=>203|210=>208|127=>128|145=>227|143=>225|21=>21|171=>196|173=>200|212=>213|51=>214|20=>20|213=>215|232=>229|233=>230|80=>81|n=>n,fun|15=>1|16=>2|17=>3|18=>6|19=>7|n=>n⟩
theorem Tryz.sH:Go.Proofs.LaysC.n172 Tryz.prog Tryz.vz:={
 mixed:=by kernel_rfl
 f129:=Tryz.func169.trans (congrArg some (by kernel_rfl))
 f171:=Tryz.func84.trans (congrArg some (by kernel_rfl))
 f172:=Tryz.func88.trans (congrArg some (by kernel_rfl))
 f205:=Tryz.func165.trans (congrArg some (by kernel_rfl))
 f243:=Tryz.func112.trans (congrArg some (by kernel_rfl))
 f244:=Tryz.func116.trans (congrArg some (by kernel_rfl))
 f245:=Tryz.func117.trans (congrArg some (by kernel_rfl))
 f246:=Tryz.func134.trans (congrArg some (by kernel_rfl))
 f247:=Tryz.func139.trans (congrArg some (by kernel_rfl))
 f279:=Tryz.func140.trans (congrArg some (by kernel_rfl))
 f280:=Tryz.func141.trans (congrArg some (by kernel_rfl))
 f281:=Tryz.func142.trans (congrArg some (by kernel_rfl))
 f282:=Tryz.func143.trans (congrArg some (by kernel_rfl))
 f283:=Tryz.func154.trans (congrArg some (by kernel_rfl))
 f284:=Tryz.func155.trans (congrArg some (by kernel_rfl))
 f285:=Tryz.func156.trans (congrArg some (by kernel_rfl))
 f286:=Tryz.func157.trans (congrArg some (by kernel_rfl))
 f287:=Tryz.func163.trans (congrArg some (by kernel_rfl))
 f316:=Tryz.func164.trans (congrArg some (by kernel_rfl))
 f317:=Tryz.func168.trans (congrArg some (by kernel_rfl))
 f318:=Tryz.func170.trans (congrArg some (by kernel_rfl))
 f319:=Tryz.func171.trans (congrArg some (by kernel_rfl))
 f320:=Tryz.func172.trans (congrArg some (by kernel_rfl))
 f321:=Tryz.func175.trans (congrArg some (by kernel_rfl))
 f322:=Tryz.func176.trans (congrArg some (by kernel_rfl))
 f337:=Tryz.func177.trans (congrArg some (by kernel_rfl))
 f338:=Tryz.func178.trans (congrArg some (by kernel_rfl))
 t0:=Tryz.underlying0
 a0:=Tryz.isAgg0
 z0:=Tryz.sizeOf0
 v0:=Tryz.zeroValue0
 t2:=Tryz.underlying2
 a2:=Tryz.isAgg2
 z2:=Tryz.sizeOf2
 v2:=Tryz.zeroValue2
 t3:=Tryz.underlying3
 a3:=Tryz.isAgg3
 z3:=Tryz.sizeOf3
 v3:=Tryz.zeroValue3
 t4:=Tryz.underlying4
 a4:=Tryz.isAgg4
 z4:=Tryz.sizeOf4
 v4:=Tryz.zeroValue4
 t5:=Tryz.underlying5
 a5:=Tryz.isAgg5
 z5:=Tryz.sizeOf5
 v5:=Tryz.zeroValue5
 t9:=Tryz.underlying9
 a9:=Tryz.isAgg9
 z9:=Tryz.sizeOf9
 v9:=Tryz.zeroValue9
 t20:=Tryz.underlying20
 a20:=Tryz.isAgg20
 z20:=Tryz.sizeOf20
 v20:=Tryz.zeroValue20
 t21:=Tryz.underlying21
 a21:=Tryz.isAgg21
 z21:=Tryz.sizeOf21
 v21:=Tryz.zeroValue21
 t37:=Tryz.underlying76
 a37:=Tryz.isAgg76
 z37:=Tryz.sizeOf76
 v37:=Tryz.zeroValue76
 t46:=Tryz.underlying203
 a46:=Tryz.isAgg203
 z46:=Tryz.sizeOf203
 v46:=Tryz.zeroValue203
 t51:=Tryz.underlying214
 a51:=Tryz.isAgg214
 z51:=Tryz.sizeOf214
 v51:=Tryz.zeroValue214
 t53:=Tryz.underlying197
 a53:=Tryz.isAgg197
 z53:=Tryz.sizeOf197
 v53:=Tryz.zeroValue197
 t75:=Tryz.underlying123
 a75:=Tryz.isAgg123
 z75:=Tryz.sizeOf123
 v75:=Tryz.zeroValue123
 t76:=Tryz.underlying124
 a76:=Tryz.isAgg124
 z76:=Tryz.sizeOf124
 v76:=Tryz.zeroValue124
 t85:=Tryz.underlying180
 a85:=Tryz.isAgg180
 z85:=Tryz.sizeOf180
 v85:=Tryz.zeroValue180
 t127:=Tryz.underlying128
 a127:=Tryz.isAgg128
 z127:=Tryz.sizeOf128
 v127:=Tryz.zeroValue128
 t143:=Tryz.underlying225
 a143:=Tryz.isAgg225
 z143:=Tryz.sizeOf225
 v143:=Tryz.zeroValue225
 t145:=Tryz.underlying227
 a145:=Tryz.isAgg227
 z145:=Tryz.sizeOf227
 v145:=Tryz.zeroValue227
 t167:=Tryz.underlying179
 a167:=Tryz.isAgg179
 z167:=Tryz.sizeOf179
 v167:=Tryz.zeroValue179
 t168:=Tryz.underlying182
 a168:=Tryz.isAgg182
 z168:=Tryz.sizeOf182
 v168:=Tryz.zeroValue182
 t171:=Tryz.underlying196
 a171:=Tryz.isAgg196
 z171:=Tryz.sizeOf196
 v171:=Tryz.zeroValue196
 t173:=Tryz.underlying200
 a173:=Tryz.isAgg200
 z173:=Tryz.sizeOf200
 v173:=Tryz.zeroValue200
 t175:=Tryz.underlying204
 a175:=Tryz.isAgg204
 z175:=Tryz.sizeOf204
 v175:=Tryz.zeroValue204
 t210:=Tryz.underlying208
 a210:=Tryz.isAgg208
 z210:=Tryz.sizeOf208
 v210:=Tryz.zeroValue208
 t212:=Tryz.underlying213
 a212:=Tryz.isAgg213
 z212:=Tryz.sizeOf213
 v212:=Tryz.zeroValue213
 t213:=Tryz.underlying215
 a213:=Tryz.isAgg215
 z213:=Tryz.sizeOf215
 t232:=Tryz.underlying229
 a232:=Tryz.isAgg229
 z232:=Tryz.sizeOf229
 v232:=Tryz.zeroValue229
 t233:=Tryz.underlying230
 a233:=Tryz.isAgg230
 z233:=Tryz.sizeOf230
 v233:=Tryz.zeroValue230
 g15:=by kernel_rfl
 g16:=by kernel_rfl
 g17:=by kernel_rfl
 g18:=by kernel_rfl
 g19:=by kernel_rfl
 t80:=Tryz.underlying81
 a80:=Tryz.isAgg81
 z80:=Tryz.sizeOf81
 v80:=Tryz.zeroValue81
 i0:=by kernel_rfl
 i2:=by kernel_rfl
 i3:=by kernel_rfl
 i4:=by kernel_rfl
 i5:=by kernel_rfl
 i9:=by kernel_rfl
 i20:=by kernel_rfl
 i21:=by kernel_rfl
 i37:=by kernel_rfl
 i46:=by kernel_rfl
 i51:=by kernel_rfl
 i53:=by kernel_rfl
 i75:=by kernel_rfl
 i76:=by kernel_rfl
 i80:=by kernel_rfl
 i85:=by kernel_rfl
 i127:=by kernel_rfl
 i143:=by kernel_rfl
 i145:=by kernel_rfl
 i167:=by kernel_rfl
 i168:=by kernel_rfl
 i171:=by kernel_rfl
 i173:=by kernel_rfl
 i175:=by kernel_rfl
 i210:=by kernel_rfl
 i212:=by kernel_rfl
 i232:=by kernel_rfl
 i233:=by kernel_rfl
 m15:=by kernel_rfl
 m16:=by kernel_rfl
 m17:=by kernel_rfl
 m18:=by kernel_rfl
 m19:=by kernel_rfl
 c0:=by kernel_rfl
 c2:=by kernel_rfl
 c3:=by kernel_rfl
 c4:=by kernel_rfl
 c5:=by kernel_rfl
 c9:=by kernel_rfl
 c20:=by kernel_rfl
 c21:=by kernel_rfl
 c37:=by kernel_rfl
 c46:=by kernel_rfl
 c51:=by kernel_rfl
 c53:=by kernel_rfl
 c75:=by kernel_rfl
 c76:=by kernel_rfl
 c80:=by kernel_rfl
 c85:=by kernel_rfl
 c127:=by kernel_rfl
 c143:=by kernel_rfl
 c145:=by kernel_rfl
 c167:=by kernel_rfl
 c168:=by kernel_rfl
 c171:=by kernel_rfl
 c173:=by kernel_rfl
 c175:=by kernel_rfl
 c210:=by kernel_rfl
 c212:=by kernel_rfl
 c213:=by kernel_rfl
 c232:=by kernel_rfl
 c233:=by kernel_rfl}
open Go.RowKit in
theorem Tryz.strconv_Atoi_ok (s:ByteArray) (hmax:s.size≤9223372036854775806) (v:Int) (h:Lib.atoiAll s.data.toList= .ok v) (w:World) :
  Calls Tryz.prog 88 #[.string s] w fun e w'=>e= .returned (.tuple #[.int .i64 v,.nilIface])∧(w'=w∨∃t,w'=Lib.bytesWorld w 5 t):=Any.strconv_Atoi_ok Tryz.sH s hmax v h w
open Go.RowKit in
theorem Tryz.strconv_Atoi_range_var (s : ByteArray) (hlim : s.size ≤ 281474976710656) (h : Lib.atoiAll s.data.toList = .range) (tp : TypeId) (p : Value) (w : World) (hvar : w.var? Tryz.prog "strconv.ErrRange" = some #[.iface tp p]) :
  Calls Tryz.prog 88 #[.string s] w fun e w'=>∃N,e= .returned (.tuple #[.int .i64 (Lib.atoiSat s.data.toList),.iface 182 (.pointer (some ⟨N,0,none⟩))])∧w.heap.size≤N∧w'.heap[N]?=some (.cells #[.string ⟨#[65,116,111,105]⟩,.string s,.iface tp p] 208 (0,0))∧Below w.heap.size w w':=Any.strconv_Atoi_range_var Tryz.sH s hlim h tp p w hvar
def Tryz.xu:Go.Shelf.Ren:=⟨fun|146=>55|221=>86|268=>113|138=>114|143=>115|195=>135|197=>136|218=>137|219=>138|260=>158|217=>159|225=>160|224=>161|267=>162|266=>173|314=>174|n=>n,fun|9=>9|31=>86|3=>3|4=>4|0=>0|105=>176|21=>21|5=>5|46=>203|119=>217|139=>220|138=>219|146=>221|51=>214|n=>n,fun|1=>0|3=>4|4=>5|n=>n⟩
theorem Tryz.E9:Go.Proofs.Lays.n146 Tryz.prog Tryz.xu:={
 mixed:=by kernel_rfl
 f138:=Tryz.func114.trans (congrArg some (by kernel_rfl))
 f143:=Tryz.func115.trans (congrArg some (by kernel_rfl))
 f146:=Tryz.func55.trans (congrArg some (by kernel_rfl))
 f195:=Tryz.func135.trans (congrArg some (by kernel_rfl))
 f197:=Tryz.func136.trans (congrArg some (by kernel_rfl))
 f217:=Tryz.func159.trans (congrArg some (by kernel_rfl))
 f218:=Tryz.func137.trans (congrArg some (by kernel_rfl))
 f219:=Tryz.func138.trans (congrArg some (by kernel_rfl))
 f221:=Tryz.func86.trans (congrArg some (by kernel_rfl))
 f224:=Tryz.func161.trans (congrArg some (by kernel_rfl))
 f225:=Tryz.func160.trans (congrArg some (by kernel_rfl))
 f260:=Tryz.func158.trans (congrArg some (by kernel_rfl))
 f266:=Tryz.func173.trans (congrArg some (by kernel_rfl))
 f267:=Tryz.func162.trans (congrArg some (by kernel_rfl))
 f268:=Tryz.func113.trans (congrArg some (by kernel_rfl))
 f314:=Tryz.func174.trans (congrArg some (by kernel_rfl))
 t0:=Tryz.underlying0
 a0:=Tryz.isAgg0
 z0:=Tryz.sizeOf0
 v0:=Tryz.zeroValue0
 t3:=Tryz.underlying3
 a3:=Tryz.isAgg3
 z3:=Tryz.sizeOf3
 v3:=Tryz.zeroValue3
 t4:=Tryz.underlying4
 a4:=Tryz.isAgg4
 z4:=Tryz.sizeOf4
 v4:=Tryz.zeroValue4
 t5:=Tryz.underlying5
 a5:=Tryz.isAgg5
 z5:=Tryz.sizeOf5
 v5:=Tryz.zeroValue5
 t9:=Tryz.underlying9
 a9:=Tryz.isAgg9
 z9:=Tryz.sizeOf9
 v9:=Tryz.zeroValue9
 t21:=Tryz.underlying21
 a21:=Tryz.isAgg21
 z21:=Tryz.sizeOf21
 v21:=Tryz.zeroValue21
 t31:=Tryz.underlying86
 a31:=Tryz.isAgg86
 z31:=Tryz.sizeOf86
 v31:=Tryz.zeroValue86
 t46:=Tryz.underlying203
 a46:=Tryz.isAgg203
 z46:=Tryz.sizeOf203
 v46:=Tryz.zeroValue203
 t51:=Tryz.underlying214
 a51:=Tryz.isAgg214
 z51:=Tryz.sizeOf214
 v51:=Tryz.zeroValue214
 t105:=Tryz.underlying176
 a105:=Tryz.isAgg176
 z105:=Tryz.sizeOf176
 v105:=Tryz.zeroValue176
 t119:=Tryz.underlying217
 a119:=Tryz.isAgg217
 z119:=Tryz.sizeOf217
 t138:=Tryz.underlying219
 a138:=Tryz.isAgg219
 z138:=Tryz.sizeOf219
 v138:=Tryz.zeroValue219
 t139:=Tryz.underlying220
 a139:=Tryz.isAgg220
 z139:=Tryz.sizeOf220
 v139:=Tryz.zeroValue220
 t146:=Tryz.underlying221
 a146:=Tryz.isAgg221
 z146:=Tryz.sizeOf221
 v146:=Tryz.zeroValue221
 g1:=by kernel_rfl
 g3:=by kernel_rfl
 g4:=by kernel_rfl}
open Go.RowKit Go.Lib in
theorem Tryz.strings_Split (s sep:ByteArray) (m:Int) (w:World) (hs:s.size<4294967281) (hm:w.cell? ⟨0,0,none⟩=some (.int .i64 m)) (h1:1≤sep.size) :
  Calls Tryz.prog 55 #[.string s,.string sep] w fun e w' =>
   e= .returned (.slice (some ⟨w.heap.size,0,none⟩) (Lib.countB s sep+1) (Lib.countB s sep+1))∧w'=w.alloc (.cells ((Lib.splitB sep 0 (Lib.countB s sep) s).map Value.string).toArray 9):=Any.strings_Split Tryz.E9 (by kernel_rfl) s sep m w hs hm h1
end Go.Proofs
namespace Go.Proofs.YtaleoeblooeglaaGreatDoor
section
open Go.Shelf
def Dg:Go.Shelf.Ren:=⟨fun|240=>111|276=>133|n=>n,fun|0=>0|4=>4|5=>5|9=>9|20=>20|37=>76|70=>75|72=>78|164=>172|n=>n,fun|n=>n⟩
theorem At:Go.Proofs.Lays.n240 Tryz.prog Dg:={
 mixed:=by kernel_rfl
 f240:=Tryz.func111.trans (congrArg some (by kernel_rfl))
 f276:=Tryz.func133.trans (congrArg some (by kernel_rfl))
 t0:=Tryz.underlying0
 a0:=Tryz.isAgg0
 z0:=Tryz.sizeOf0
 v0:=Tryz.zeroValue0
 t4:=Tryz.underlying4
 a4:=Tryz.isAgg4
 z4:=Tryz.sizeOf4
 v4:=Tryz.zeroValue4
 t9:=Tryz.underlying9
 a9:=Tryz.isAgg9
 z9:=Tryz.sizeOf9
 v9:=Tryz.zeroValue9
 t20:=Tryz.underlying20
 a20:=Tryz.isAgg20
 z20:=Tryz.sizeOf20
 v20:=Tryz.zeroValue20
 t70:=Tryz.underlying75
 a70:=Tryz.isAgg75
 z70:=Tryz.sizeOf75
 v70:=Tryz.zeroValue75
 t72:=Tryz.underlying78
 a72:=Tryz.isAgg78
 z72:=Tryz.sizeOf78
 v72:=Tryz.zeroValue78
 t164:=Tryz.underlying172
 a164:=Tryz.isAgg172
 z164:=Tryz.sizeOf172
 v164:=Tryz.zeroValue172}
theorem HW:Builder.X72 Tryz.prog Dg where
 sizeBuilder:=by kernel_rfl
 liesBuilder:=by kernel_rfl
end
section
namespace Pur
open Go.RowKit
section
open Go.RowKit Go.ChangeShapes Go.WideShapes Go.ChangeAt
def Typed (P:Program) (B:Nat):Nat→TypeId→List PV→Prop
 |0,_,_=>False
 |n+1,t,l=>match P.underlying t with
  |some .bool=>∃b,l=[.bool b]
  |some (.int k)=>∃x,l=[.int k x]∧(Lit.int k x).wf=true
  |some .string=>∃s,l=[.str s]∧s.length≤B
  |some (.slice e)=>∃m cs,l=[.sl m cs]∧m≤B∧cs.length=m*P.cellsOf e∧∀i,i<m→Typed P B n e ((cs.drop (i*P.cellsOf e)).take (P.cellsOf e))
  |some (.struct fs)=>l.length=P.cellsOf t∧∀(i:Nat) f,fs[i]?=some f→Typed P B n f.type ((l.drop f.offset).take (P.cellsOf f.type))
  |_=>False
def nk (P:Program):List Field→Nat→Nat→Bool
 |[],o,e=>Nat.beq o e
 |f::r,o,e=>Nat.beq f.offset o&&nk P r (o+P.cellsOf f.type) e
def xw (P:Program) (L:List TypeId):Bool:=L.all fun t=>match P.underlying t with
 |some .bool=>true
 |some (.int _)=>true
 |some .string=>true
 |some (.slice e)=>L.contains e&&Nat.ble 1 (P.cellsOf e)
 |some (.struct fs)=>fs.toList.all (fun f=>L.contains f.type)&&nk P fs.toList 0 (P.cellsOf t)
 |_=>false
structure xx {H:Type} (B:Nat) (Sm:DataW H→Prop):Prop where
 slice:∀l m,Sm (.slice l m)→l.length≤maxLen→l.length≤B∧∀d∈l,Sm d
 agg:∀l,Sm (.agg l)→∀d∈l,Sm d
 str:∀l,Sm (.lit (.string l))→l.length≤maxLen→l.length≤B
theorem xx.any {H:Type}:xx maxLen (fun _:DataW H=>True):=⟨fun _ _ _ h=>⟨h,fun _ _=>trivial⟩,fun _ _ _ _=>trivial,fun _ _ h=>h⟩
section
variable {H:Type} {enc:TypeId×Value→H} {P:Program} {w:World} {B:Nat} {Sm:DataW H→Prop}
def ph (w:World) (g:Nat):Prop:=g<w.heap.size
theorem PW.app {α β:Type} {R:α→β→Prop} {l l':List α} {m m':List β} (h:PW R l m) (h':PW R l' m'):PW R (l++l') (m++m') :=
 ⟨by simp[h.len,h'.len],fun i a b ha hb=>by
  by_cases hi:i<l.length
  ·rw[List.getElem?_append_left hi]at ha;rw[List.getElem?_append_left (by rw[←h.len];exact hi)]at hb;exact h.at_ i a b ha hb
  rw[List.getElem?_append_right (by omega)]at ha;rw[List.getElem?_append_right (by rw[←h.len];omega),←h.len]at hb;exact h'.at_ _ a b ha hb⟩
theorem BE {g o:Nat} {v:Value} (h:w.cell? ⟨g,o,none⟩=some v):g<w.heap.size:=by
 apply Classical.byContradiction;intro hn;have:w.heap[g]?=none:=Array.getElem?_eq_none (by omega);simp[World.cell?,this]at h
theorem pieces {α:Type} (z:Nat) (Q:Nat→List α→Prop):∀(m:Nat),(∀i,i<m→∃l:List α,l.length=z∧Q i l)→∃l:List α,l.length=m*z∧∀i,i<m→Q i ((l.drop (i*z)).take z)
 |0,_=>⟨[],by simp,fun i hi=>absurd hi (Nat.not_lt_zero i)⟩
 |m+1,h=>by
  obtain⟨l,hl,hq⟩:=pieces z Q m fun i hi=>h i (by omega)
  obtain⟨x,hx,hxq⟩:=h m (by omega);refine⟨l++x,by rw[List.length_append,hl,hx,Nat.succ_mul],fun i hi=>?_⟩;have hle:∀i,i<m→i*z+z≤m*z:=fun i hi=>by
   have:=Nat.mul_le_mul_right z (show i+1≤m by omega);rwa [Nat.succ_mul]at this
  by_cases him:i<m
  ·have:=hle i him;rw[List.drop_append_of_le_length (by omega),List.take_append_of_le_length (by rw[List.length_drop];omega)];exact hq i him
  have:i=m:=by omega
  subst this;rw[←hl,List.drop_left,List.take_of_length_le (by omega)];exact hxq
theorem Dh {α:Type} {z m:Nat} {l:List α} (hl:l.length=m*z) {j:Nat} {x:α} (hx:l[j]?=some x):j / z<m∧((l.drop (j / z*z)).take z)[j % z]?=some x:=by
 have hj:j<m*z:=by rw[←hl];exact(List.getElem?_eq_some_iff.mp hx).1
 have hz:0<z:=by
  rcases Nat.eq_zero_or_pos z with h|h
  ·subst h;omega
  exact h
 refine⟨Nat.div_lt_of_lt_mul (by rw[Nat.mul_comm];exact hj),?_⟩;rw[List.getElem?_take,if_pos (Nat.mod_lt _ hz),List.getElem?_drop];have:j / z*z+j % z=j:=by rw[Nat.mul_comm];exact Nat.div_add_mod j z
 rw[this];exact hx
theorem qL {n:Nat} {cs:List Value} (ih:∀(t:TypeId) (cs:List Value),(∃x,DataW.trod enc P w 0 (fun _=>true) true n t cs=some x∧Sm x.1)→∀L:List TypeId,xw P L=true→t∈L→∃l,Typed P B n t l∧PW (Is w (ph w)) l cs∧∀c∈cs,c.oneCell'=true) (L:List TypeId) (hL:xw P L=true) :
  ∀(fs:List Field) (o e:Nat),nk P fs o e=true→(∀f∈fs,f.type∈L)→(∀f∈fs,∃x,DataW.trod enc P w 0 (fun _=>true) true n f.type ((cs.drop f.offset).take (P.cellsOf f.type))=some x∧Sm x.1)→(∀f∈fs,f.offset+P.cellsOf f.type≤cs.length) →
   o≤e∧∃l:List PV,PW (Is w (ph w)) l ((cs.drop o).take (e-o))∧(∀c∈(cs.drop o).take (e-o),c.oneCell'=true)∧∀f∈fs,o≤f.offset∧Typed P B n f.type ((l.drop (f.offset-o)).take (P.cellsOf f.type))
 |[],o,e,hc,_,_,_=>by
  simp only[nk]at hc;have:=Nat.eq_of_beq_eq_true hc;subst this;refine⟨Nat.le_refl _,[],?_,?_,fun f hf=>by cases hf⟩
  ·rw[Nat.sub_self,List.take_zero];exact⟨rfl,fun i a b h=>by simp at h⟩
  rw[Nat.sub_self,List.take_zero];intro c hc;cases hc
 |f::r,o,e,hc,ht,hx,hb=>by
  simp only[nk,Bool.and_eq_true]at hc;have ho:=Nat.eq_of_beq_eq_true hc.1;obtain⟨hle,l,h1,h2,h3⟩:=qL ih L hL r (o+P.cellsOf f.type) e hc.2 (fun g hg=>ht g (List.mem_cons_of_mem _ hg)) (fun g hg=>hx g (List.mem_cons_of_mem _ hg)) (fun g hg=>hb g (List.mem_cons_of_mem _ hg));obtain⟨x,hx0,hxs⟩:=hx f List.mem_cons_self;have hbf:=hb f List.mem_cons_self;rw[ho]at hx0 hbf;obtain⟨m,k1,k2,k3⟩:=ih f.type _ ⟨x,hx0,hxs⟩ L hL (ht f List.mem_cons_self);have hml:m.length=P.cellsOf f.type:=by rw[k2.len,List.length_take,List.length_drop];omega
  have hsplit:(cs.drop o).take (e-o)=(cs.drop o).take (P.cellsOf f.type)++(cs.drop (o+P.cellsOf f.type)).take (e-(o+P.cellsOf f.type)):=by
   rw[show e-o=P.cellsOf f.type+(e-(o+P.cellsOf f.type)) by omega,List.take_add,List.drop_drop]
  refine⟨by omega,m++l,?_,?_,fun g hg=>?_⟩
  ·rw[hsplit];exact k2.app h1
  ·rw[hsplit];intro c hc;rcases List.mem_append.mp hc with hc|hc
   ·exact k3 c hc
   exact h2 c hc
  cases hg with
  |head =>
   refine⟨by omega,?_⟩;rw[ho,Nat.sub_self,List.drop_zero,←hml,List.take_left];exact k1
  |tail _ hg =>
   obtain⟨g1,g2⟩:=h3 g hg;refine⟨by omega,?_⟩;rw[List.drop_append,hml,List.drop_eq_nil_of_le (by omega),List.nil_append,show g.offset-o-P.cellsOf f.type=g.offset-(o+P.cellsOf f.type) by omega];exact g2
theorem ox (hM:xx B Sm):∀(n:Nat) (t:TypeId) (cs:List Value),(∃x,DataW.trod enc P w 0 (fun _=>true) true n t cs=some x∧Sm x.1)→∀L:List TypeId,xw P L=true→t∈L →
  ∃l,Typed P B n t l∧PW (Is w (ph w)) l cs∧∀c∈cs,c.oneCell'=true
 |0,t,cs,⟨x,h,_⟩,_,_,_=>by simp[DataW.trod]at h
 |n+1,t,cs,⟨x,h,hsm⟩,L,hL,ht=>by
  have hsh:=List.all_eq_true.mp hL t ht;have one:∀{p:PV} {v:Value},Is w (ph w) p v→PW (Is w (ph w)) [p] [v]:=fun {p v} h=>⟨rfl,fun i a b ha hb=>by
   match i,ha,hb with
   |0,ha,hb=>simp at ha hb;subst ha hb;exact h⟩
  cases hu:P.underlying t with
  |none=>rw[hu]at hsh;cases hsh
  |some d =>
   rw[hu]at hsh;cases d with
   |bool =>
    obtain⟨b,rfl,-⟩:=DataW.trod_bool hu h;exact⟨[.bool b],by simp only[Typed,hu];exact⟨b,rfl⟩,one (.bool b),fun c hc=>by simp at hc;subst hc;rfl⟩
   |int k =>
    obtain⟨m,rfl,-,hw⟩:=DataW.trod_int hu h;exact⟨[.int k m],by simp only[Typed,hu];exact⟨m,rfl,hw⟩,one (.int k m),fun c hc=>by simp at hc;subst hc;rfl⟩
   |string =>
    obtain⟨s,rfl,rfl,hs⟩:=DataW.trod_string hu h;exact⟨[.str s.data.toList],by simp only[Typed,hu];exact⟨_,rfl,hM.str _ hsm (by rw[Array.length_toList];exact hs)⟩,one (CF w _ s),fun c hc=>by simp at hc;subst hc;rfl⟩
   |slice e =>
    simp only[Bool.and_eq_true]at hsh;have he:e∈L:=by simpa using hsh.1
    have hz:=Nat.le_of_ble_eq_true hsh.2;rcases DataW.trod_slice hu h with⟨rfl,-⟩|⟨a,len,cap,elems,rest,n',hn,rfl,rfl,-,hlc,hcm,hlen,hel,-,-⟩
    ·exact⟨[.sl 0 []],by simp only[Typed,hu];exact⟨0,[],rfl,Nat.zero_le _,(Nat.zero_mul _).symm,fun i hi=>absurd hi (Nat.not_lt_zero i)⟩,one .sl0,fun c hc=>by simp at hc;subst hc;rfl⟩
    injection hn with hn
    subst hn;obtain⟨hmB,hms⟩:=hM.slice _ _ hsm (by rw[List.length_map];omega);rw[List.length_map,hlen]at hmB;have each:∀i,i<len→∃cs,(w.cells? 0 (a.add (i*P.cellsOf e)) (P.cellsOf e))=some cs∧∃l,Typed P B n e l∧PW (Is w (ph w)) l cs∧∀c∈cs,c.oneCell'=true:=fun i hi=>by
     have h1:=hel i hi;have h2:∃y,elems[i]?=some y:=⟨elems[i]'(by omega),List.getElem?_eq_getElem (by omega)⟩
     obtain⟨y,hy⟩:=h2;rw[hy]at h1;obtain⟨cs,hc1,hc2⟩:=Option.bind_eq_some_iff.mp h1;exact⟨cs,hc1,ox hM n e cs ⟨y,hc2,hms _ (List.mem_map_of_mem (List.mem_of_getElem? hy))⟩ L hL he⟩
    cases len with
    |zero=>exact⟨[.sl 0 []],by simp only[Typed,hu];exact⟨0,[],rfl,Nat.zero_le _,(Nat.zero_mul _).symm,fun i hi=>absurd hi (Nat.not_lt_zero i)⟩,one (.slz a cap hcm),fun c hc=>by simp at hc;subst hc;rfl⟩
    |succ len =>
     have hspot:a.spot=none:=by
      obtain⟨cs,hc,-⟩:=each 0 (by omega);obtain⟨-,hcl,hcell⟩:=World.cells?_some hc;have h0:=hcell 0 (by omega);rw[List.getElem?_eq_getElem (by omega)]at h0;have h1:=World.cell?_spot h0;obtain⟨b,o,sp⟩:=a;cases sp with
      |none=>rfl
      |some q=>simp[Addr.add]at h1
     obtain⟨b,o,sp⟩:=a;subst hspot;obtain⟨l,hl,hq⟩:=pieces (P.cellsOf e) (fun i l=>Typed P B n e l∧∀(j:Nat) p,l[j]?=some p→∃v,w.cell? ⟨b,o+(i*P.cellsOf e+j),none⟩=some v∧Is w (ph w) p v∧v.oneCell'=true) (len+1) fun i hi=>by
      obtain⟨cs,hc,l,k1,k2,k3⟩:=each i hi;obtain⟨-,hcl,hcell⟩:=World.cells?_some hc;refine⟨l,by rw[k2.len,hcl],k1,fun j p hp=>?_⟩;have hj:j<l.length:=(List.getElem?_eq_some_iff.mp hp).1;have hjc:j<cs.length:=by rw[←k2.len];exact hj
      have h0:=hcell j (by omega);rw[List.getElem?_eq_getElem hjc,show((⟨b,o,none⟩:Addr).add (i*P.cellsOf e)).add j=⟨b,o+(i*P.cellsOf e+j),none⟩ by rw[add_plain,add_plain,Nat.add_assoc]]at h0;exact⟨_,h0,k2.at_ j p _ hp (List.getElem?_eq_getElem hjc),k3 _ (List.getElem_mem hjc)⟩
     have key:∀(i:Nat) p,l[i]?=some p→∃v,w.cell? ⟨b,o+i,none⟩=some v∧Is w (ph w) p v∧v.oneCell'=true:=fun i p hp=>by
      obtain⟨g1,g2⟩:=Dh hl hp;obtain⟨v,h1,h2,h3⟩:=(hq _ g1).2 _ p g2;have:i / P.cellsOf e*P.cellsOf e+i % P.cellsOf e=i:=by rw[Nat.mul_comm];exact Nat.div_add_mod i _
      rw[this]at h1;exact⟨v,h1,h2,h3⟩
     have hb:ph w b:=by
      have:0<l.length:=by rw[hl];exact Nat.mul_pos (by omega) (by omega)
      obtain⟨v,h1,-⟩:=key 0 _ (List.getElem?_eq_getElem this);exact BE h1
     refine⟨[.sl (len+1) l],by simp only[Typed,hu];exact⟨_,_,rfl,hmB,hl,fun i hi=>(hq i hi).1⟩,one ?_,fun c hc=>by simp at hc;subst hc;rfl⟩;refine .sl (len+1) l b o cap (fun i=>(w.cell? ⟨b,o+i,none⟩).getD undef) hb hlc hcm (fun i p hp=>?_) (fun i p hp=>?_) fun i p hp=>?_
     ·obtain⟨v,h1,-,-⟩:=key i p hp;rw[h1];rfl
     ·obtain⟨v,h1,-,h3⟩:=key i p hp;rw[h1];exact h3
     obtain⟨v,h1,h2,-⟩:=key i p hp;rw[h1];exact h2
   |struct fs =>
    simp only[Bool.and_eq_true]at hsh;obtain⟨xs,n',hn,rfl,hcl,hxl,hat⟩:=DataW.trod_struct hu h;injection hn with hn
    subst hn;have hin:∀f∈fs.toList,f.type∈L:=fun f hf=>by simpa using List.all_eq_true.mp hsh.1 f hf
    have hx:∀f∈fs.toList,∃x,DataW.trod enc P w 0 (fun _=>true) true n f.type ((cs.drop f.offset).take (P.cellsOf f.type))=some x∧Sm x.1:=fun f hf=>by
     obtain⟨i,hi⟩:=List.mem_iff_getElem?.mp hf;have hfi:fs[i]?=some f:=by rw[←Array.getElem?_toList];exact hi
     have h1:=hat i f hfi;have hil:i<xs.length:=by rw[hxl];exact(Array.getElem?_eq_some_iff.mp hfi).1
     exact⟨xs[i],by rw[h1,List.getElem?_eq_getElem hil],hM.agg _ hsm _ (List.mem_map_of_mem (List.getElem_mem hil))⟩
    have bound:∀(fs:List Field) (o e:Nat),nk P fs o e=true→o≤e∧∀f∈fs,f.offset+P.cellsOf f.type≤e:=by
     intro fs;induction fs with
     |nil =>
      intro o e h;simp only[nk]at h;have:=Nat.eq_of_beq_eq_true h;exact⟨by omega,fun f hf=>by cases hf⟩
     |cons f r ih =>
      intro o e h;simp only[nk,Bool.and_eq_true]at h;have h1:=Nat.eq_of_beq_eq_true h.1;obtain⟨g1,g2⟩:=ih _ e h.2;refine⟨by omega,fun g hg=>?_⟩;cases hg with
      |head=>omega
      |tail _ hg=>exact g2 g hg
    obtain⟨-,l,k1,k2,k3⟩:=qL (fun t cs hx L hL ht=>ox hM n t cs hx L hL ht) L hL fs.toList 0 (P.cellsOf t) hsh.2 hin hx (fun f hf=>by rw[hcl];exact(bound _ _ _ hsh.2).2 f hf);rw[List.drop_zero,Nat.sub_zero,List.take_of_length_le (by omega)]at k1 k2;refine⟨l,?_,k1,k2⟩;simp only[Typed,hu];refine⟨by rw[k1.len,hcl],fun i f hf=>?_⟩;have:=(k3 f (List.mem_iff_getElem?.mpr ⟨i,by rw[Array.getElem?_toList];exact hf⟩)).2;simpa using this
   |_=>cases hsh
def sI (P:Program) (B:Nat) (t:TypeId) (p:PV):Prop:=∃n l,Typed P B n t l∧(bif (match P.underlying t with|some (.struct _)=>true|_=>false) then p= .agg l else l=[p])
def sJ (P:Program) (B:Nat):List TypeId→List PV→Prop
 |[],[]=>True
 |t::ts,p::ps=>sI P B t p∧sJ P B ts ps
 |_,_=>False
theorem zq (hM:xx B Sm) {L:List TypeId} (hL:xw P L=true) {t:TypeId} (ht:t∈L) {r:Reach} {b:Nat} {v:Value} {d:DataW H} {ps:List MemPlace} (hv:Value.okWide P w r b t v) (h:DataW.Trod enc P w 0 (fun _=>true) true t v d ps) (hs:Sm d) :
  ∃p,sI P B t p∧Is w (ph w) p v:=by
 obtain⟨n,h⟩:=h;obtain⟨l,h1,h2,-⟩:=ox hM n t _ ⟨_,h,hs⟩ L hL ht;cases n with
 |zero=>exact h1.elim
 |succ n =>
 have hsh:=List.all_eq_true.mp hL t ht;unfold Value.okWide at hv;cases hu:P.underlying t with
 |none=>rw[hu]at hsh;cases hsh
 |some d =>
  rw[hu]at hsh hv;have leaf:(∀fs,d≠.struct fs)→(∃p,l=[p])→(∀cs,v≠.agg cs)→∃p,sI P B t p∧Is w (ph w) p v:=fun hd hp hc=>by
   obtain⟨p,rfl⟩:=hp;have hcells:v.cells=#[v]:=by
    cases v<;>first|rfl|exact absurd rfl (hc _)
   rw[hcells]at h2;refine⟨p,⟨n+1,[p],h1,?_⟩,h2.at_ 0 p v rfl rfl⟩;rw[hu];cases d<;>first|rfl|exact absurd rfl (hd _)
  cases d with
  |struct fs =>
   obtain⟨cs,rfl,-⟩:=hv;refine⟨.agg l,⟨n+1,l,h1,by rw[hu];rfl⟩,?_⟩;have:=Is.agg (w:=w) (S:=ph w) l cs.toList h2.len h2.at_;simpa using this
  |bool =>
   simp only[Typed,hu]at h1;obtain⟨x,rfl⟩:=h1;refine leaf (by simp) ⟨_,rfl⟩ fun cs hc=>?_
   subst hc;simp[Cell.okWide,hu,Cell.ok]at hv
  |int k =>
   simp only[Typed,hu]at h1;obtain⟨x,rfl,-⟩:=h1;refine leaf (by simp) ⟨_,rfl⟩ fun cs hc=>?_
   subst hc;simp[Cell.okWide,hu,Cell.ok]at hv
  |string =>
   simp only[Typed,hu]at h1;obtain⟨x,rfl,-⟩:=h1;refine leaf (by simp) ⟨_,rfl⟩ fun cs hc=>?_
   subst hc;simp[Cell.okWide,hu,Cell.ok]at hv
  |slice e =>
   simp only[Typed,hu]at h1;obtain⟨m,x,rfl,-⟩:=h1;refine leaf (by simp) ⟨_,rfl⟩ fun cs hc=>?_
   subst hc;simp[Cell.okWide,hu,Cell.ok]at hv
  |_=>cases hsh
theorem xy (hM:xx B Sm) {L:List TypeId} (hL:xw P L=true) {r:Reach} {b:Nat}:∀(ts:List TypeId) (vs:List Value) (ds:List (DataW H)) (ps:List MemPlace),(∀t∈ts,t∈L)→(∀(j:Nat) t v,ts[j]?=some t→vs[j]?=some v→Value.okWide P w r b t v)→DataW.TrodAll enc P w 0 (fun _=>true) true ts vs ds ps→(∀d∈ds,Sm d) →
  ∃qs,sJ P B ts qs∧PW (Is w (ph w)) qs vs
 |[],vs,ds,ps,_,_,h,_=>by
  obtain⟨rfl,rfl,rfl⟩:=trodAll_nil h;exact⟨[],trivial,rfl,fun i a b h=>by simp at h⟩
 |t::ts,vs,ds,ps,ht,hv,h,hs=>by
  obtain⟨v,vs',d,ds',p,q,rfl,rfl,rfl,h0,h1⟩:=trodAll_cons h;obtain⟨x,x1,x2⟩:=zq hM hL (ht t List.mem_cons_self) (hv 0 t v rfl rfl) h0 (hs d List.mem_cons_self);obtain⟨qs,y1,y2⟩:=xy hM hL ts vs' ds' q (fun t h=>ht t (List.mem_cons_of_mem _ h)) (fun j t v h1 h2=>hv (j+1) t v h1 h2) h1 (fun d h=>hs d (List.mem_cons_of_mem _ h));refine⟨x::qs,⟨x1,y1⟩,by simp[y2.len],fun i a b ha hb=>?_⟩;cases i with
  |zero=>simp at ha hb;subst ha hb;exact x2
  |succ i=>exact y2.at_ i a b (by simpa using ha) (by simpa using hb)
theorem xz (hl:laidOutB P=true) {w':World} {sp:Nat→Bool}:∀(ts:List TypeId) (vs:List Value) (ds:List (DataW H)) (ps:List MemPlace),(∀t∈ts,P.readableRec t=true∧t<P.types.size)→(∀p∈ps,w.sameAt w' p)→(∀p∈ps,sp p.block=true)→DataW.TrodAll enc P w 0 (fun _=>true) true ts vs ds ps →
  DataW.TrodAll enc P w' 0 sp true ts vs ds ps
 |[],vs,ds,ps,_,_,_,h=>by
  obtain⟨rfl,rfl,rfl⟩:=trodAll_nil h;exact trodAll_mk0
 |t::ts,vs,ds,ps,ht,hs,hsp,h=>by
  obtain⟨v,vs',d,ds',p,q,rfl,rfl,rfl,h0,h1⟩:=trodAll_cons h;exact⟨p,q,Go.WideElems.Trod_stays hl (ht t List.mem_cons_self).1 (ht t List.mem_cons_self).2 h0 (fun x hx=>hs x (List.mem_append_left _ hx)) (fun x hx=>hsp x (List.mem_append_left _ hx)),
   xz hl ts vs' ds' q (fun t h=>ht t (List.mem_cons_of_mem _ h)) (fun x hx=>hs x (List.mem_append_right _ hx)) (fun x hx=>hsp x (List.mem_append_right _ hx)) h1,rfl⟩
theorem zu {w':World} (hb:Below w.heap.size w w') {p:MemPlace} (hp:p.block<w.heap.size):w.sameAt w' p:=by
 cases p with
 |cell b o=>exact World.cell?_of_block (hb.block b hp)
 |map b=>exact hb.block b hp
end
end
section
theorem Di {H:Type} (d:DataW H):1≤Rows.uptoBulk d:=by
 cases d with
 |lit l=>cases l<;>simp[Rows.uptoBulk]
 |_=>simp[Rows.uptoBulk]
theorem nO {H:Type}:∀{l:List (DataW H)} {d:DataW H},d∈l→Rows.uptoBulk d≤Rows.uptoBulkAll l
 |x::r,d,h=>by
  simp only[Rows.uptoBulkAll];rcases List.mem_cons.1 h with rfl|h
  ·omega
  have:=nO h;omega
theorem xA {H:Type}:∀(l:List (DataW H)),l.length≤Rows.uptoBulkAll l
 |[]=>by simp[Rows.uptoBulkAll]
 |x::r=>by have:=Di x;have:=xA r;simp only[Rows.uptoBulkAll,List.length_cons];omega
theorem xx.upto {H:Type}:xx 1048576 (fun d:DataW H=>Rows.uptoBulk d≤1048576):=by
 refine⟨fun l m h _=>?_,fun l h d hd=>?_,fun l h _=>?_⟩
 ·simp only[Rows.uptoBulk]at h;have:=xA l;exact⟨by omega,fun d hd=>by have:=nO hd;omega⟩
 ·simp only[Rows.uptoBulk]at h;have:=nO hd;omega
 simp only[Rows.uptoBulk]at h;omega
theorem Dj {H:Type} {l:List (DataW H)} (hk:Rows.uptoSmall H l=true):∀d∈l,Rows.uptoBulk d≤1048576:=fun d hd=>by
 have h1:Rows.uptoBulkAll l≤1048576:=of_decide_eq_true hk;have:=nO hd;omega
end
section
section
variable {P:Program} {B n:Nat}
theorem Hd {t:TypeId} {k:IntKind} {l:List PV} (h:Typed P B n t l) (hu:P.underlying t=some (.int k)):∃x,l=[.int k x]∧(Lit.int k x).wf=true:=by
 cases n with
 |zero=>exact h.elim
 |succ n=>simpa only[Typed,hu]using h
theorem ll {t:TypeId} {fs:Array Field} {l:List PV} (h:Typed P B n t l) (hu:P.underlying t=some (.struct fs)):l.length=P.cellsOf t∧∃m,n=m+1∧∀(i:Nat) f,fs[i]?=some f→Typed P B m f.type ((l.drop f.offset).take (P.cellsOf f.type)):=by
 cases n with
 |zero=>exact h.elim
 |succ n =>
  simp only[Typed,hu]at h;exact⟨h.1,n,rfl,h.2⟩
theorem piece {m:Nat} {fs:Array Field} {l:List PV} (hf:∀(i:Nat) f,fs[i]?=some f→Typed P B m f.type ((l.drop f.offset).take (P.cellsOf f.type))) (i o:Nat) (t:TypeId) {z:Nat} (hz:P.cellsOf t=z) (hi:(fs[i]?).map (fun f=>(f.offset,f.type))=some (o,t)) :
  Typed P B m t ((l.drop o).take z):=by
 obtain⟨f,h1,h2⟩:=Option.map_eq_some_iff.mp hi;injection h2 with h2 h3
 have:=hf i f h1;rw[h2,h3,hz]at this;exact this
theorem Au {α:Type} (z:Nat) (enc:α→List PV) (Q:α→Prop) (he:∀x,Q x→(enc x).length=z):∀(m:Nat) (cs:List PV),cs.length=m*z→(∀i,i<m→∃x,(cs.drop (i*z)).take z=enc x∧Q x)→∃xs:List α,xs.length=m∧cs=xs.flatMap enc∧∀x∈xs,Q x
 |0,cs,hl,_=>by
  have:cs=[]:=List.eq_nil_of_length_eq_zero (by simpa using hl);subst this;exact⟨[],rfl,rfl,fun x hx=>by cases hx⟩
 |m+1,cs,hl,h=>by
  obtain⟨x,hx,hq⟩:=h 0 (by omega);rw[Nat.zero_mul,List.drop_zero]at hx;rw[Nat.succ_mul]at hl;obtain⟨xs,h1,h2,h3⟩:=Au z enc Q he m (cs.drop z) (by rw[List.length_drop];omega) fun i hi=>by
   have:=h (i+1) (by omega);rw[List.drop_drop,show z+i*z=(i+1)*z by rw[Nat.succ_mul];omega];exact this
  refine⟨x::xs,by simp[h1],?_,fun y hy=>?_⟩
  ·rw[List.flatMap_cons,←h2,←hx,List.take_append_drop]
  rcases List.mem_cons.mp hy with rfl|hy
  ·exact hq
  exact h3 y hy
theorem kp {α:Type} {t e:TypeId} {l:List PV} (h:Typed P B n t l) (hu:P.underlying t=some (.slice e)) {z:Nat} (hz:P.cellsOf e=z) (enc:α→List PV) (Q:α→Prop) (he:∀x,Q x→(enc x).length=z)
  (hd:∀m c,m<n→Typed P B m e c→∃x,c=enc x∧Q x):∃xs:List α,l=[.sl xs.length (xs.flatMap enc)]∧xs.length≤B∧∀x∈xs,Q x:=by
 cases n with
 |zero=>exact h.elim
 |succ n =>
  simp only[Typed,hu,hz]at h;obtain⟨m,cs,rfl,hm,hl,hi⟩:=h;obtain⟨xs,h1,h2,h3⟩:=Au z enc Q he m cs hl fun i him=>hd n _ (by omega) (hi i him)
  subst h1 h2;exact⟨xs,rfl,hm,h3⟩
theorem He {t:TypeId} {p:PV} {fs:Array Field} (h:sI P B t p) (hu:P.underlying t=some (.struct fs)):∃n l,Typed P B n t l∧p= .agg l:=by
 obtain⟨n,l,h1,h2⟩:=h;rw[hu]at h2;exact⟨n,l,h1,h2⟩
end
end
section
open Sch
def canon:Nat→PV→PV
 |0,p=>p
 |d+1,p=>match p with
  | .nilsl=>.sl 0 []
  | .agg l=>.agg (l.map (canon d))
  | .tup l=>.tup (l.map (canon d))
  | .sl n l=>.sl n (l.map (canon d))
  |p=>p
theorem np {w:World} {S:Nat→Prop}:∀(d:Nat) {p:PV} {v:Value},Is w S p v→Is w S (canon d p) v
 |0,_,_,h=>h
 |d+1,p,v,h=>by
  cases h with
  |int k n=>exact .int k n
  |bool b=>exact .bool b
  |str s=>exact .str s
  |agg l cs hl hat =>
   refine .agg _ cs (by simpa using hl) fun i q u h1 h2=>?_
   rw[List.getElem?_map]at h1;obtain⟨r,hr,rfl⟩:=Option.map_eq_some_iff.mp h1;exact np d (hat i r u hr h2)
  |tup l cs hl hat =>
   refine .tup _ cs (by simpa using hl) fun i q u h1 h2=>?_
   rw[List.getElem?_map]at h1;obtain⟨r,hr,rfl⟩:=Option.map_eq_some_iff.mp h1;exact np d (hat i r u hr h2)
  |nilsl=>exact .sl0
  |sl n l g o cap c hS h1 h2 hc h3 hi =>
   refine .sl n _ g o cap c hS h1 h2 (fun i q hq=>?_) (fun i q hq=>?_) fun i q hq=>?_
   all_goals
    rw[List.getElem?_map]at hq;obtain⟨r,hr,rfl⟩:=Option.map_eq_some_iff.mp hq
   ·exact hc i r hr
   ·exact h3 i r hr
   exact np d (hi i r hr)
  |sl0=>exact .sl0
  |slz a cap h=>exact .slz a cap h
  |val v=>exact .val v
  |iface t p=>exact .iface t p
  |mp l r es clock a b c d=>exact .mp l r es clock a b c d
theorem aq.oy {C:Ctx} {f:FuncId} {ps:List PV} {r:PV} (d:Nat) (h:aq C f (ps.map (canon d)) r):aq C f ps r :=
 ⟨h.1,fun w S vs hE hS hp=>h.2 w S vs hE hS ⟨by rw[List.length_map];exact hp.len,fun i p v h1 h2=>by
  rw[List.getElem?_map]at h1;obtain⟨q,hq,rfl⟩:=Option.map_eq_some_iff.mp h1;exact np d (hp.at_ i q v hq h2)⟩⟩
theorem aq.uw {C:Ctx} {f:FuncId} {ps:List PV} {r:PV} (d:Nat) (h:aq C f ps r):aq C f ps (canon d r) :=
 ⟨h.1,fun w S vs hE hS hp=>(h.2 w S vs hE hS hp).mono fun e w' hh=>by
  obtain⟨v,h1,h2,h3⟩:=hh;exact⟨v,h1,h2,np d h3⟩⟩
theorem aq.sK {f:FuncId} {ps:List PV} {r:PV} (hc:eU Tryz.prog f=true) (h:∀(w:World) (S:Nat→Prop) (vs:List Value),Env w→(∀g,S g→g<w.heap.size)→PW (Is w S) ps vs →
  Calls Tryz.prog f vs.toArray w fun e w'=>∃v,e= .returned v∧Below w.heap.size w w'∧(∀w' S',Is w' S' r v)):aq ctx f ps r :=
 ⟨hc,fun w S vs hE hS hp=>(h w S vs hE hS hp).mono fun e w' hh=>by
  obtain⟨v,h1,h2,h3⟩:=hh;exact⟨v,h1,h2,h3 _ _⟩⟩
theorem JK {w:World} {S:Nat→Prop} {p:PV} {vs:List Value} (h:PW (Is w S) [p] vs):∃v,vs=[v]∧Is w S p v:=by
 match vs,h.len with
 |[v],_=>exact⟨v,rfl,h.at_ 0 p v rfl rfl⟩
theorem JL {w:World} {S:Nat→Prop} {p q:PV} {vs:List Value} (h:PW (Is w S) [p,q] vs):∃v u,vs=[v,u]∧Is w S p v∧Is w S q u:=by
 match vs,h.len with
 |[v,u],_=>exact⟨v,u,rfl,h.at_ 0 p v rfl rfl,h.at_ 1 q u rfl rfl⟩
theorem oz {w:World} {S:Nat→Prop} {l:List UInt8} {v:Value} (h:Is w S (.str l) v):v= .string ⟨l.toArray⟩:=by cases h;rfl
theorem sL {w:World} {S:Nat→Prop} {k:IntKind} {n:Int} {v:Value} (h:Is w S (.int k n) v):v= .int k n:=by cases h;rfl
theorem vA {w:World} {S:Nat→Prop} {p q:PV} {u v:Value} (h1:Is w S p u) (h2:Is w S q v):Is w S (.tup [p,q]) (.tuple #[u,v]) :=
 .tup [p,q] [u,v] rfl fun i r x hr hx=>by
  match i,hr,hx with
  |0,hr,hx=>simp at hr hx;subst hr hx;exact h1
  |1,hr,hx=>simp at hr hx;subst hr hx;exact h2
theorem Fa (n:Int) (h0: -9223372036854775808≤n) (h1:n≤9223372036854775807):aq ctx 84 [.int .i64 n] (.str (Lib.itoa n)):=by
 refine aq.sK (by kernel_rfl) fun w S vs hE hS hp=>?_
 obtain⟨v,rfl,hv⟩:=JK hp;have:=sL hv;subst this;refine(Tryz.strconv_Itoa n h0 h1 w hE.tab).mono fun e w' ⟨he,k,os,hw⟩=>⟨_,he,?_,fun _ _=>.str _⟩
 rw[hw];exact below_grown_sl w.heap.size w k os (Nat.le_refl _)
def Dk (l:List UInt8):PV:=match Lib.atoiAll l with
 | .ok v=>.tup [.int .i64 v,.val .nilIface]
 | .range=>.tup [.int .i64 (Lib.atoiSat l),.iface]
 |_=>.tup [.int .i64 0,.iface]
theorem Fb (l:List UInt8) (hl:l.length≤281474976710656):aq ctx 88 [.str l] (Dk l):=by
 refine aq.sK (by kernel_rfl) fun w S vs hE hS hp=>?_
 obtain⟨v,rfl,hv⟩:=JK hp;have:=oz hv;subst this;have hsz:(⟨l.toArray⟩:ByteArray).size=l.length:=by simp[ByteArray.size]
 unfold Dk;cases ha:Lib.atoiAll l;case ok n =>
  refine(Tryz.strconv_Atoi_ok ⟨l.toArray⟩ (by omega) n ha w).mono fun e w' ⟨he,hw⟩=>⟨_,he,?_,fun _ _=>vA (.int _ _) (.val _)⟩
  rcases hw with rfl|⟨t,rfl⟩
  ·exact Below.refl _ _
  exact Go.Joins.below_bytesWorld _ w _ t (Nat.le_refl _)
 case range =>
  obtain⟨tp,p,hv⟩:=hE.ran;refine(Tryz.strconv_Atoi_range_var ⟨l.toArray⟩ (by omega) ha tp p w hv).mono fun e w' ⟨N,he,_,_,hb⟩=>⟨_,he,hb,fun _ _=>vA (.int _ _) (.iface _ _)⟩
 ·obtain⟨tp,p,hv⟩:=hE.syn;refine(Any.strconv_Atoi_syntax_var Tryz.sH ⟨l.toArray⟩ (by omega) ha tp p w hv).mono fun e w' ⟨N,he,_,_,hb⟩=>⟨_,he,hb,fun _ _=>vA (.int _ _) (.iface _ _)⟩
end
end Pur
end
section
namespace Pur
theorem xB {w:World} {S:Nat→Prop} {b:Bool} {v:Value} (h:Is w S (.bool b) v):v= .bool b:=by cases h;rfl
end Pur
end
end Go.Proofs.YtaleoeblooeglaaGreatDoor
namespace Go.Proofs.YtaleoeblooeglaaGreatDoor.Cd
open Go.ChangeShapes Go.WideShapes Go.ChangeAt Go.RowKit
theorem n5 {P:Program} {W:World} {name nm:String} {d:DataW Unit} {g:Nat} {t:TypeId} {ms:Array (String×TypeId)}
  (hg:P.globalNamed name=some g) (hty:(P.globals[g]?).map (·.type)=some t) (ht:P.underlying t=some (.interface ms)) :
  ∀(laid:List (String×DataW Unit)) (ps:List MemPlace),DataW.LaidVars P W laid ps→(name,DataW.iface nm d)∈laid→∃tp p,W.var? P name=some #[.iface tp p]:=by
 intro laid;induction laid with
 |nil=>intro ps _ hm;cases hm
 |cons x rest ih =>
  intro ps h hm;obtain⟨nm',d'⟩:=x;obtain⟨g',t',cs,fuel,p,q,hg',ht',hvar,hd,hrest,_⟩:=h;rcases List.mem_cons.1 hm with hm|hm
  ·obtain⟨rfl,rfl⟩:=Prod.mk.inj hm;obtain rfl:=Option.some.inj (hg.symm.trans hg');obtain rfl:=Option.some.inj (hty.symm.trans ht');rw[hvar];obtain⟨l⟩:=cs;cases fuel with
   |zero=>simp[DataW.trod]at hd
   |succ fuel =>
    simp only[DataW.trod,ht]at hd;match l,hd with
    |[],hd=>simp at hd
    |[v],hd =>
     cases v<;>simp at hd;exact⟨_,_,rfl⟩
    |_::_::_,hd=>simp at hd
  exact ih q hrest hm
theorem vB {P:Program} {w:World} {g:Nat} {t:TypeId} {zero:Array Value} (h:w.ShapedOpen P) (hg:g<P.globals.size)
  (h0:((begin P (fun _ _=>0) default).world.heap[g]?).bind Obj.row?=some (zero,t)) (hz:zero.size=1)
  (hb:P.buildable t=true) (hc:P.cellTypes P.depth t=some [t]) (hu:P.underlying t=some (.int .i64)):∃m,w.cell? ⟨g,0,none⟩=some (.int .i64 m):=by
 obtain⟨cs,hh,hs,hr⟩:=h.1 g zero t hg h0;obtain⟨ts,hts,_,hall⟩:=hr hb;rw[hc]at hts;cases hts;have h1:0<cs.size:=by omega
 obtain⟨u,hu',hok⟩:=hall 0 cs[0] (by simp[h1]);have:u=t:=by simpa using hu'.symm
 subst this;have hcell:w.cell? ⟨g,0,none⟩=some cs[0]:=by simp[World.cell?,hh,h1]
 rw[hcell];unfold Cell.ok at hok;rw[hu]at hok;cases hv:cs[0]<;>rw[hv]at hok<;>first|(simp at hok;done)|skip
 obtain⟨rfl,_⟩:=hok;exact⟨_,rfl⟩
theorem own:ownKnob Tryz.prog.godebug=none:=by kernel_rfl
theorem Dl:(Tryz.prog.globals[3]?).map (·.type)=some 213:=by kernel_rfl
theorem Dm:Tryz.prog.cellsOf 213=20:=by kernel_rfl
theorem BF:Tryz.prog.cellsOf 197=1:=by kernel_rfl
theorem Dn:(Tryz.prog.globals[1]?).map (·.type)=some 123:=by kernel_rfl
theorem Dp:(Tryz.prog.globals[2]?).map (·.type)=some 123:=by kernel_rfl
theorem Hf {W:World} (h:laidMetH Tryz.prog Rows.refutationFormsUptoRow.laid W) (hsh:W.ShapedOpen Tryz.prog):Env W:=by
 obtain⟨ps,hv,_⟩:laidMet Tryz.prog Rows.refutationFormsUptoRow.laid W:=h;refine⟨?_,?_,?_,?_⟩
 ·exact tQ Tryz.Ha Dl Tryz.underlying213 Tryz.underlying197 BF Dm _ ps hv (by
   simp only[Rows.refutationFormsUptoRow,List.mem_cons,List.not_mem_nil,or_false];right;right;left;rfl)
 ·exact n5 (nm := "*errors.errorString") (d := .ptr (.agg [.lit (.string [105, 110, 118, 97, 108, 105, 100, 32, 115, 121, 110, 116, 97, 120])])) Tryz.Hb Dn Tryz.underlying123 _ ps hv (by
   simp only[Rows.refutationFormsUptoRow,List.mem_cons,List.not_mem_nil,or_false];right;right;right;right;right;left;rfl)
 ·exact n5 (nm := "*errors.errorString") (d := .ptr (.agg [.lit (.string [118, 97, 108, 117, 101, 32, 111, 117, 116, 32, 111, 102, 32, 114, 97, 110, 103, 101])])) Tryz.Hc Dp Tryz.underlying123 _ ps hv (by
   simp only[Rows.refutationFormsUptoRow,List.mem_cons,List.not_mem_nil,or_false];right;right;right;right;left;rfl)
 exact vB (zero:=#[.int .i64 0]) hsh (of_decide_eq_true (by kernel_rfl)) (t:=3) (by kernel_rfl) rfl (by kernel_rfl) (by kernel_rfl) Tryz.underlying3
end Go.Proofs.YtaleoeblooeglaaGreatDoor.Cd
namespace Go.Proofs.YtaleoeblooeglaaGreatDoor
section
namespace Rf
structure aJ where
 kind:Int
 index:Int
 cell:Int
 deriving DecidableEq
inductive Tree where
 |node (kind:Int) (steps:List aJ) (cell pos:Int) (kids:List Tree)
def Tree.kind:Tree→Int| .node k _ _ _ _=>k
def Tree.steps:Tree→List aJ| .node _ s _ _ _=>s
def Tree.cell:Tree→Int| .node _ _ c _ _=>c
def Tree.pos:Tree→Int| .node _ _ _ a _=>a
def Tree.kids:Tree→List Tree| .node _ _ _ _ l=>l
def zt:Tree:=.node 0 [] 0 0 []
def zs:aJ:=⟨0,0,0⟩
theorem Tree.ind {P:Tree→Prop} (h:∀k s c a l,(∀t∈l,P t)→P (.node k s c a l)):∀t,P t
 | .node k s c a l=>h k s c a l fun t _=>Tree.ind h t
def wt:Tree→Nat
 | .node _ s _ _ l=>1+s.length+(l.attach.map fun x=>wt x.1).sum
decreasing_by
 have:=List.sizeOf_lt_of_mem x.2;simp;omega
def iA:List Tree→Nat
 |[]=>0
 |t::r=>wt t+iA r
def aT:Tree→Nat
 | .node _ s _ _ l=>s.length+(l.attach.map fun x=>aT x.1).sum
decreasing_by
 have:=List.sizeOf_lt_of_mem x.2;simp;omega
def aW:List Tree→Nat
 |[]=>0
 |t::r=>aT t+aW r
def c7:Tree→Nat
 | .node _ _ _ _ l=>(l.attach.map fun x=>c7 x.1).foldr max 0+1
decreasing_by
 have:=List.sizeOf_lt_of_mem x.2;simp;omega
def cK:List Tree→Nat
 |[]=>0
 |t::r=>max (c7 t) (cK r)
theorem Dq:∀l,(l.map wt).sum=iA l
 |[]=>rfl
 |t::r=>by rw[List.map_cons,List.sum_cons,Dq r,iA]
theorem sM:∀l,(l.map aT).sum=aW l
 |[]=>rfl
 |t::r=>by rw[List.map_cons,List.sum_cons,sM r,aW]
theorem sN:∀l,(l.map c7).foldr max 0=cK l
 |[]=>rfl
 |t::r=>by rw[List.map_cons,List.foldr_cons,sN r,cK]
theorem attach_map {α:Type} (f:Tree→α) (l:List Tree):(l.attach.map fun x=>f x.1)=l.map f:=by
 simp
theorem cz (k:Int) (s:List aJ) (c a:Int) (l:List Tree):wt (.node k s c a l)=1+s.length+iA l:=by
 rw[wt,attach_map,Dq]
theorem ey (k:Int) (s:List aJ) (c a:Int) (l:List Tree):aT (.node k s c a l)=s.length+aW l:=by
 rw[aT,attach_map,sM]
theorem iy (k:Int) (s:List aJ) (c a:Int) (l:List Tree):c7 (.node k s c a l)=cK l+1:=by
 rw[c7,attach_map,sN]
theorem jj:∀a b,iA (a++b)=iA a+iA b
 |[],b=>by simp[iA]
 |t::r,b=>by rw[List.cons_append,iA,iA,jj r b];omega
theorem kq:∀a b,aW (a++b)=aW a+aW b
 |[],b=>by simp[aW]
 |t::r,b=>by rw[List.cons_append,aW,aW,kq r b];omega
theorem lY:∀{l:List Tree} {t:Tree},t∈l→wt t≤iA l
 |x::r,t,h=>by
  rw[iA];cases h with
  |head=>omega
  |tail _ h=>have:=lY h;omega
theorem j3:∀l:List Tree,l.length≤iA l
 |[]=>Nat.zero_le _
 |t::r=>by
  have:=j3 r;have h:1≤wt t:=by cases t;rw[cz];omega
  rw[iA,List.length_cons];omega
theorem sO (l:List Tree) (k:Nat):iA (l.take k)≤iA l:=by
 have:=jj (l.take k) (l.drop k);rw[List.take_append_drop]at this;omega
theorem jk:∀t,aT t≤wt t:=by
 refine Tree.ind fun k s c a l ih=>?_
 have:∀l:List Tree,(∀t∈l,aT t≤wt t)→aW l≤iA l:=fun l=>by
  induction l with
  |nil=>intro _;simp[aW]
  |cons t r ihr =>
   intro h;have h1:=h t (by simp);have h2:=ihr fun x hx=>h x (by simp[hx])
   rw[aW,iA];omega
 have:=this l ih;rw[ey,cz];omega
theorem jz:∀l:List Tree,aW l≤iA l
 |[]=>Nat.le_refl _
 |t::r=>by
  have h1:=jk t;have h2:=jz r;rw[aW,iA];omega
theorem BG:∀t,c7 t≤wt t:=by
 refine Tree.ind fun k s c a l ih=>?_
 have:∀l:List Tree,(∀t∈l,c7 t≤wt t)→cK l≤iA l:=fun l=>by
  induction l with
  |nil=>intro _;simp[cK]
  |cons t r ihr =>
   intro h;have h1:=h t (by simp);have h2:=ihr fun x hx=>h x (by simp[hx])
   rw[cK,iA];omega
 have:=this l ih;rw[iy,cz];omega
end Rf
namespace Pur
open Rf
theorem b7 {α:Type} {g:α→List PV} {m:Nat} (hg:∀x,(g x).length=m):∀(l:List α),(l.flatMap g).length=l.length*m
 |[]=>by simp
 |x::r=>by rw[List.flatMap_cons,List.length_append,hg,b7 hg r,List.length_cons,Nat.succ_mul,Nat.add_comm]
theorem bK {α:Type} {g:α→List PV} {m:Nat} (hg:∀x,(g x).length=m):∀(l:List α) (k:Nat) (d:α) (j:Nat),k<l.length→j<m→(l.flatMap g)[k*m+j]?=(g (l.getD k d))[j]?
 |[],k,_,_,h,_=>by simp at h
 |x::r,0,d,j,_,hj=>by
  rw[List.flatMap_cons,List.getElem?_append_left (by rw[hg];omega)];simp
 |x::r,k+1,d,j,h,hj=>by
  rw[List.flatMap_cons,List.getElem?_append_right (by rw[hg,Nat.succ_mul];omega),hg,show(k+1)*m+j-m=k*m+j by rw[Nat.succ_mul];omega,bK hg r k d j (by simpa using h) hj];simp
theorem bQ {α:Type} {g:α→List PV} {m:Nat} (hg:∀x,(g x).length=m) (l:List α) (k:Nat) (d:α) (hk:k<l.length):((l.flatMap g).drop (k*m)).take m=g (l.getD k d):=by
 refine List.ext_getElem? fun j=>?_
 by_cases hj:j<m
 ·rw[List.getElem?_take,if_pos hj,List.getElem?_drop,bK hg l k d j hk hj]
 rw[List.getElem?_take,if_neg hj,List.getElem?_eq_none (by rw[hg];omega)]
theorem aH {α:Type} (l:List α) (k:Nat) (d:α) (hk:k<l.length):l.take (k+1)=l.take k++[l.getD k d]:=by
 rw[List.take_add_one,List.getD,List.getElem?_eq_getElem hk];rfl
theorem aQ {α:Type} {l:List α} {k:Nat} {d:α} (h:k<l.length):l.getD k d∈l:=by
 rw[List.getD,List.getElem?_eq_getElem h];exact List.getElem_mem h
def af (x:aJ):List PV:=[.int .i64 x.kind,.int .i64 x.index,.int .i64 x.cell]
def fq (x:aJ):PV:=.agg (af x)
def aj (l:List aJ):PV:=.sl l.length (l.flatMap af)
def aD:Tree→List PV
 | .node k s c a l=>[.int .i64 k,aj s,.int .i64 c,.int .i64 a,.sl l.length (l.attach.map fun x=>aD x.1).flatten]
decreasing_by
 have:=List.sizeOf_lt_of_mem x.2;simp;omega
def aw (l:List Tree):PV:=.sl l.length (l.flatMap aD)
theorem fu (k:Int) (s:List aJ) (c a:Int) (l:List Tree):aD (.node k s c a l)=[.int .i64 k,aj s,.int .i64 c,.int .i64 a,aw l]:=by
 rw[aD,attach_map,aw,List.flatMap_def]
def aE (t:Tree):PV:=.agg [.int .i64 t.kind,aj t.steps,.int .i64 t.cell,.int .i64 t.pos,aw t.kids]
theorem xC (t:Tree):aD t=[.int .i64 t.kind,aj t.steps,.int .i64 t.cell,.int .i64 t.pos,aw t.kids]:=by
 cases t with|node k s c a l=>exact fu k s c a l
theorem ck (t:Tree):(aD t).length=5:=by rw[xC];rfl
theorem bI (x:aJ):(af x).length=3:=rfl
def ax (t:Tree):eN:=⟨[.pv (.int .i64 t.kind),.pv (aj t.steps),.pv (.int .i64 t.cell),.pv (.int .i64 t.pos),.pv (aw t.kids)],0,5,25,false⟩
theorem gY (l:List Tree) (k:Nat) (hk:k<l.length):((l.flatMap aD).drop (k*5)).take 5=[.int .i64 (l.getD k zt).kind,aj (l.getD k zt).steps,.int .i64 (l.getD k zt).cell,.int .i64 (l.getD k zt).pos,aw (l.getD k zt).kids]:=by
 rw[bQ ck l k zt hk,xC]
theorem fa (l:List Tree):(l.flatMap aD).length=l.length*5:=b7 ck l
theorem de (l:List aJ):(l.flatMap af).length=l.length*3:=b7 bI l
end Pur
end
section
def Dr (c:UInt8):List UInt8→List (List UInt8)
 |[]=>[[]]
 |x::r=>if x=c then []::Dr c r else match Dr c r with
  |h::t=>(x::h)::t
  |[]=>[[x]]
theorem oA (c:UInt8):∀s:List UInt8,Lib.splitK [c] 0 (Lib.count s [c]) s=Dr c s
 |[]=>by rw[Lib.count_miss (by simp[Lib.index])];rfl
 |x::r=>by
  have ih:=oA c r;by_cases h:x=c
  ·subst h;have hix:Lib.index (x::r) [x]=0:=by rw[Lib.index];simp[List.isPrefixOf]
   rw[Lib.count_cons_eq,Nat.add_comm,Lib.splitK,hix];simp only[Dr];simpa using ih
  rw[Lib.count_cons_ne x c r h];have hp:([c]:List UInt8).isPrefixOf (x::r)=false:=by simp[List.isPrefixOf,Ne.symm h]
  have hix:Lib.index (x::r) [c]=if Lib.index r [c]== -1 then -1 else Lib.index r [c]+1:=by rw[Lib.index,hp];simp
  simp only[Dr,if_neg h];cases hk:Lib.count r [c] with
  |zero =>
   rw[hk]at ih;rw[←ih];rfl
  |succ k =>
   rw[hk]at ih;have hne:Lib.index r [c]≠ -1:=fun he=>by rw[Lib.count_miss he]at hk;cases hk
   have hge:=Lib.index_ge r [c];obtain⟨j,hj⟩:∃j:Nat,Lib.index r [c]=j:=⟨(Lib.index r [c]).toNat,by omega⟩
   have h1:Lib.index (x::r) [c]=((j+1:Nat):Int):=by rw[hix,if_neg (by simpa using hne),hj];omega
   rw[Lib.splitK,h1,if_neg (by simp;omega)];rw[Lib.splitK,hj,if_neg (by simp)]at ih;rw[←ih];simp
theorem Fc (c:UInt8) (s:List UInt8):(Dr c s).length=Lib.count s [c]+1:=by
 rw[←oA];have:=Lib.splitB_all ⟨#[c]⟩ (by simp[ByteArray.size]) 0 (Lib.count s [c]) ⟨s.toArray⟩ rfl;have h2:=Lib.splitB_data ⟨#[c]⟩ 0 (Lib.count s [c]) ⟨s.toArray⟩;rw[show(⟨#[c]⟩:ByteArray).data.toList=[c] from rfl,show(⟨s.toArray⟩:ByteArray).data.toList=s from rfl]at h2;rw[←h2,List.length_map,this]
namespace Pur
open Go.RowKit
def vC (l:List (List UInt8)):PV:=.sl l.length (l.map .str)
theorem xD (c:UInt8) (s:List UInt8) (hs:s.length<4294967281):aq ctx 55 [.str s,.str [c]] (vC (Dr c s)):=by
 refine⟨by kernel_rfl,fun w S vs hE hS hp=>?_⟩;obtain⟨v,u,rfl,hv,hu⟩:=JL hp;have hv:=oz hv;have hu:=oz hu;subst hv hu;obtain⟨m,hm⟩:=hE.ml;have hlen:=Fc c s;have hdat:=Lib.splitB_data ⟨#[c]⟩ 0 (Lib.count s [c]) ⟨s.toArray⟩;rw[show(⟨#[c]⟩:ByteArray).data.toList=[c] from rfl,show(⟨s.toArray⟩:ByteArray).data.toList=s from rfl,oA]at hdat;have hcnt:Lib.count s [c]≤s.length+1:=Lib.count_le s [c];refine(Tryz.strings_Split ⟨s.toArray⟩ ⟨#[c]⟩ m w (by simpa [ByteArray.size]using hs) hm (by simp[ByteArray.size])).mono fun e w' ⟨he,hw⟩=>⟨_,he,?_,?_⟩
 ·subst hw;exact⟨rfl,rfl,rfl,by simp,fun k hk=>Below.heap_alloc w _ k hk⟩
 subst hw;unfold vC;rw[hlen];show Is _ _ _ (.slice (some ⟨w.heap.size,0,none⟩) (Lib.count s [c]+1) (Lib.count s [c]+1));have hat:∀(i:Nat) x,(Dr c s)[i]?=some x→((Lib.splitB ⟨#[c]⟩ 0 (Lib.count s [c]) ⟨s.toArray⟩).map Value.string)[i]?=some (.string ⟨x.toArray⟩):=fun i x hx=>by
  rw[←hdat,List.getElem?_map]at hx;obtain⟨b,hb,rfl⟩:=Option.map_eq_some_iff.mp hx;rw[List.getElem?_map,hb];rfl
 refine .sl _ _ w.heap.size 0 _ (fun i=>.string ⟨((Dr c s).getD i []).toArray⟩) (.inr ⟨Nat.le_refl _,by simp⟩) (Nat.le_refl _) (by show Lib.count s [c]+1≤maxLen;unfold maxLen;omega) (fun i p hp=>?_) (fun i p hp=>rfl) fun i p hp=>?_
 all_goals
  rw[List.getElem?_map]at hp;obtain⟨x,hx,rfl⟩:=Option.map_eq_some_iff.mp hp
 ·have:=hat i x hx;rw[List.getD,hx];have hnew:(w.alloc (.cells ((Lib.splitB ⟨#[c]⟩ 0 (Lib.count s [c]) ⟨s.toArray⟩).map Value.string).toArray 9)).heap[w.heap.size]?=some (.cells ((Lib.splitB ⟨#[c]⟩ 0 (Lib.count s [c]) ⟨s.toArray⟩).map Value.string).toArray 9 (0,0)):=World.alloc_heap_new w _;simp only[World.cell?,hnew,Nat.zero_add];rw[List.getElem?_toArray,this];rfl
 rw[List.getD,hx];exact .str x
end Pur
end
section
namespace Pur
open Go.RowKit
abbrev ξ (n:Nat) (p:PV):Nat×Hint:=(n,{val:=some (.pv p)})
attribute [local go_sem] ξ bN gv ca bz cI ji List.map bA aP get put tmpsOf eK mB kU ly conds ev cond_true cond_false Nat.beq Nat.ble Nat.add quiet eL cW dn wg List.append_eq List.nil_append List.cons_append eJ eh ei ek eo ep eu iB iq eR mE fK calm quiet.isCallK dd List.getElem?_cons_zero List.getElem?_cons_succ bV cX cellsOf List.all bP List.length_cons List.length_nil gV br List.drop List.take List.getD Option.getD_some Ab Ac yX Ad Ae Af iJ kL iK iL setAt List.set Nat.reduceAdd Nat.reduceMul cR bM refsOf bT b8 scalar dk fN cv dj a6 after freeze iV lR aZ eX gx gk gN fQ fR dY fS fT fW fX fY fZ ga gf gg gi gj dZ ea ec eS mF bytesOf bX eF aX bY fe bU cS dm still cx fM dO gR bZ gO List.isEmpty ed ef eg Int.reduceToNat Nat.mul_one Nat.reduceSub vj eG c8 eY dL look eZ strip guarded jw jO gU dC gQ dB kC fU fV Bool.or_false Bool.or_true Bool.and_true Bool.and_false Nat.blt gu gW gy dx idxOf iW ko mC gr a6 qY
section
open Rf
def aC (n lo hi:Int):Bool:=decide (lo≤n)&&decide (n≤hi)
end
section
open Rf
def c20:av:=(⟨_,by conv=>(lhs;reduce;try simp only[G4,Int.cast_ofNat_Int,Int.reduceNegSucc,UInt8.reduceOfNat])⟩:{x // codeOf Tryz.prog 20 (fun _=>false)=some x}).1
theorem ux (p:Prop):∃q:Bool,q=true↔p:=by
 by_cases h:p
 ·exact⟨true,by simp[h]⟩
 exact⟨false,by simp[h]⟩
end
section
def vD:List PanicEntry:=[{v:=.iface 84 (.agg #[]),recovered:=false}]
end
section
end
section
open Rf
structure Hg (σ:Type) where
 E:σ→World→Prop
 hE:∀k (w w':World),E k w→Below w.heap.size w w'→E k w'
 Fo:Nat→Prop
noncomputable def yB {σ:Type} (X:Hg σ):zj σ:=⟨Tryz.prog,by kernel_rfl,[],X.E,X.hE,X.Fo⟩
mutual
def qZ {σ:Type} (st:σ→Int→Tree→Bool×σ) (k:σ) (lev:Int):Tree→Bool×σ
 | .node kd s c a l=>match st k lev (.node kd s c a l) with
  |(false,k1)=>(false,k1)
  |(true,k1)=>iN st k1 (lev+1) l
def iN {σ:Type} (st:σ→Int→Tree→Bool×σ) (k:σ) (lev:Int):List Tree→Bool×σ
 |[]=>(true,k)
 |t::r=>match qZ st k lev t with
  |(false,k1)=>(false,k1)
  |(true,k1)=>iN st k1 lev r
end
mutual
theorem Gt {σ:Type} {st:σ→Int→Tree→Bool×σ} {G:σ→Prop} (hG:∀k lev t,G k→(st k lev t).1=true→G (st k lev t).2):∀(t:Tree) (k:σ) (lev:Int),G k→(qZ st k lev t).1=true→G (qZ st k lev t).2
 | .node kd s c a l,k,lev,hk,h=>by
  have h1:=hG k lev (.node kd s c a l) hk;rw[qZ]at h ⊢;generalize st k lev (.node kd s c a l)=q at *;obtain⟨b,k1⟩:=q;cases b with
  |false=>cases h
  |true=>exact Ds hG l k1 (lev+1) (h1 rfl) h
theorem Ds {σ:Type} {st:σ→Int→Tree→Bool×σ} {G:σ→Prop} (hG:∀k lev t,G k→(st k lev t).1=true→G (st k lev t).2):∀(l:List Tree) (k:σ) (lev:Int),G k→(iN st k lev l).1=true→G (iN st k lev l).2
 |[],k,lev,hk,h=>by rw[iN];exact hk
 |t::r,k,lev,hk,h=>by
  have h1:=Gt hG t k lev hk;rw[iN]at h ⊢;generalize qZ st k lev t=q at *;obtain⟨b,k1⟩:=q;cases b with
  |false=>cases h
  |true=>exact Ds hG r k1 lev (h1 rfl) h
end
def HX:av:=(⟨_,by conv=>(lhs;reduce;try simp only[G4,Int.cast_ofNat_Int,Int.reduceNegSucc,UInt8.reduceOfNat])⟩:{x // codeOf Tryz.prog 68 (fun _=>false)=some x}).1
theorem I2:bo Tryz.prog 68 (fun _=>false)=some (HX,[.t 6],28,true):=by kernel_rfl
theorem j7 {μ:AM} {b:Nat} {k:eN} (h:μ[b]?=some k) (x:eN):(μ++[x])[b]?=some k:=by
 have:=(List.getElem?_eq_some_iff.mp h).1;rw[List.getElem?_append_left this];exact h
theorem BH:∀(d:Nat) (v:AV) (m m':Nat),m≤m'→cZ d m v=true→cZ d m' v=true:=by
 intro d;induction d with
 |zero =>
  intro v m m' hmm h;cases v<;>simp only[cZ]at h ⊢<;>first|exact h|(have:=Nat.blt_eq.mp h;exact Nat.blt_eq.mpr (by omega))
 |succ d ih =>
  intro v m m' hmm h;cases v<;>simp only[cZ]at h ⊢<;>first
   |exact h
   |(have:=Nat.blt_eq.mp h;exact Nat.blt_eq.mpr (by omega))
   |(rw[List.all_eq_true]at h ⊢;exact fun x hx=>ih x m m' hmm (h x hx))
   |exact ih _ m m' hmm h
theorem zx {μ:AM} {k:eN} (h:aS μ μ.length=true) (hk:k.cells.all (cZ 3 (μ.length+1))=true):aS (μ++[k]) (μ++[k]).length=true:=by
 unfold aS at h ⊢;rw[List.all_eq_true]at h ⊢;intro q hq;rw[List.length_append,List.length_singleton];rcases List.mem_append.mp hq with hq|hq
 ·have:=h q hq;rw[List.all_eq_true]at this ⊢;exact fun v hv=>BH 3 v _ _ (by omega) (this v hv)
 rw[List.mem_singleton.mp hq];exact hk
theorem oB {μ:AM} (h:aS μ μ.length=true) (t:Tree):aS (μ++[ax t]) (μ++[ax t]).length=true :=
 zx h rfl
theorem xE {σ:Type} {F:zj σ} {own:Nat→Bool} {n m:Nat} {R:σ→Exit→AF→AM→Prop} {k:σ} {f:AF} {μ:AM} (h:R k .normal f μ):yA F own n m .skip R k f μ:=dE (bG h)
theorem Dt {σ:Type} {F:zj σ} {own:Nat→Bool} {n m id:Nat} {R:σ→Exit→AF→AM→Prop} {k:σ} {f:AF} {μ:AM} (h:R k (.exit id) f μ):yA F own n m (.exit id) R k f μ:=dE (vd h)
variable {σ:Type} {X:Hg σ}
theorem Du (l b1 b2:Nat) (e1 e2:TypeId) (st:σ→Int→Tree→Bool×σ) (G:σ→Prop) (hG:∀k lev t,G k→(st k lev t).1=true→G (st k lev t).2)
  (hY:∀(k:σ) (lev:Int) (t:Tree) (μ:AM),G k→aS μ μ.length=true→wt t≤1000000000→ -1000000000≤lev→lev≤3000000000→Bv (yB X) l [.pv (.int .i64 lev),.pv (aE t)] k μ (.pv (.bool (st k lev t).1)) (st k lev t).2 μ) :
  ∀(t:Tree),wt t≤1000000000→∀(k:σ) (lev:Int) (μ:AM),G k→aS μ μ.length=true→ -1000000000≤lev→lev+wt t≤2000000000 →
   μ[b1]?=some ⟨[.pv (.val (.func (.yield l) #[] #[]))],0,1,e1,false⟩→μ[b2]?=some ⟨[.fn 68 [.ptr b1 0 0,.ptr b2 0 0]],0,1,e2,false⟩ →
   HN (yB X) 68 [.pv (.int .i64 lev),.pv (aE t),.ptr b1 0 0,.ptr b2 0 0] k μ (.pv (.bool (qZ st k lev t).1)) (qZ st k lev t).2 μ:=by
 refine Tree.ind fun kd s c a ks ih hw k lev μ hk hμ hl0 hl1 h1 h2=>?_
 refine C9 (F:=yB X) (k:=k) (Fn.of (C:=(yB X).C k) I2 rfl) rfl (Nat.le_refl _) rfl hμ ?_;unfold HX;refine fp (dE ?_);refine bG ?_;simp only[dv,aE,Tree.kind,Tree.steps,Tree.cell,Tree.pos,Tree.kids,di,cF,cG,cH,cM,mem_set,eQ,go_sem];try simp only[dv,aE,Tree.kind,Tree.steps,Tree.cell,Tree.pos,Tree.kids,di,cF,cG,cH,cM,mem_set,eQ,go_sem]
 refine⟨(by simp[vb]<;>omega),(by simp[vb]<;>omega),?_⟩;refine fp (fp ?_);refine vv 3 [] [] ?_;simp only[xm,List.take_succ_cons,List.take_zero,List.drop_succ_cons,List.drop_zero,List.getElem?_cons_succ,List.getElem?_cons_zero,go_sem,cM,j7 h1,j7 h2,su,dv];have hT:=oB hμ (.node kd s c a ks);refine⟨by simp[az],trivial,trivial,.pv (.bool (st k lev (.node kd s c a ks)).1),(st k lev (.node kd s c a ks)).2,μ++[ax (.node kd s c a ks)],.inr ⟨.t 9,[.t 10,.t 11],l,rfl,rfl,hY k lev _ _ hk hT hw (by omega) (by omega)⟩,?_⟩
 have hvis:qZ st k lev (.node kd s c a ks)=match st k lev (.node kd s c a ks) with
  |(false,k1)=>(false,k1)
  |(true,k1)=>iN st k1 (lev+1) ks:=by rw[qZ]
 rw[hvis];have hk1:=hG k lev (.node kd s c a ks) hk;generalize st k lev (.node kd s c a ks)=q at *;obtain⟨b,k1⟩:=q;simp only[go_sem,dv];cases b with
 |false =>
  refine⟨by simp[az],trivial,?_⟩;refine lh (t:=true) rfl ?_;rw[cond_true];refine dE ?_;repeat' (first|((with_reducible first|show az _|show aB _);simp[vb]<;>omega)|exact(rfl:some _=_)|((fail_if_success refine aK ?_);refine bG ?_;(repeat1' dsimp only[HX,dv,C8,go_sem]);first|refine aL ?_ ?_ rfl ?_|apply aM|apply aN|(refine aO (fun hc=>?_) fun hc=>?_<;>first|(cases hc;done)|(exfalso;simp at hc<;>omega)|(try simp only[bn]at hc;try contradiction))|skip))
  exact⟨rfl,[],_,rfl,trivial,rfl⟩
 |true =>
  refine⟨by simp[az],trivial,?_⟩;refine lh (t:=false) rfl ?_;rw[cond_false];refine dE ?_;refine bG ?_;simp only[go_sem,dv];refine fp (fp (dE ?_));refine bG ?_;simp only[dv,ax,Tree.kind,Tree.steps,Tree.cell,Tree.pos,Tree.kids,aw,di,cF,cG,cH,cM,mem_set,eQ,go_sem];try simp only[dv,ax,Tree.kind,Tree.steps,Tree.cell,Tree.pos,Tree.kids,aw,di,cF,cG,cH,cM,mem_set,eQ,go_sem]
  refine⟨(by simp[vb]<;>omega),(by simp[vb]<;>omega),?_⟩;generalize hr:iN st k1 (lev+1) ks=r;rw[cz]at hw hl1;refine ur ?_
  refine C4 (fun j k' f' μ'=>∃i,i≤ks.length∧j=ks.length-i∧iN st k' (lev+1) (ks.drop i)=r∧Sub [(0,.pv (.int .i64 lev)),(3,.ptr b2 0 0),(15,.pv (.sl ks.length (ks.flatMap aD))),(16,.pv (.int .i64 ks.length)),(17,.pv (.int .i64 i))] f'∧∃junk,μ'=μ++junk∧aS (μ++junk) (μ++junk).length=true∧G k') ?_ ks.length ⟨0,Nat.zero_le _,rfl,by rw[List.drop_zero];exact hr,by (repeat' (first|exact trivial|refine And.intro (by first|rfl|(simp[get,Nat.beq]<;>omega)|(dsimp only[get];congr 1<;>first|rfl|omega|(simp<;>omega))) ?_)),_,rfl,hT,hk1 rfl⟩
  rintro j k' f' μ' ⟨i,hi,rfl,hv,hf,junk,rfl,hok,hkk⟩;refine Bu _ hf ?_;clear hf f';have g1:(μ++junk)[b1]?=some ⟨[.pv (.val (.func (.yield l) #[] #[]))],0,1,e1,false⟩:=by rw[List.getElem?_append_left (List.getElem?_eq_some_iff.mp h1).1];exact h1
  have g2:(μ++junk)[b2]?=some ⟨[.fn 68 [.ptr b1 0 0,.ptr b2 0 0]],0,1,e2,false⟩:=by rw[List.getElem?_append_left (List.getElem?_eq_some_iff.mp h2).1];exact h2
  by_cases hlt:i<ks.length
  ·have e:=gY ks i hlt;have hle:=fa ks;have hkl:=j3 ks;have hwx:=lY (aQ (d:=zt) hlt);have hd:ks.drop i=ks.getD i zt::ks.drop (i+1):=by rw[List.drop_eq_getElem_cons hlt,List.getD,List.getElem?_eq_getElem hlt];rfl
   rw[hd,iN]at hv;have hx:=ih _ (aQ (d:=zt) hlt) (by omega) k' (lev+1);generalize ks.getD i zt=x at *;have hT2:=oB hok x;have hx:=hx _ hkk hT2 (by omega) (by omega) (j7 g1 _) (j7 g2 _);obtain⟨xk,xs,xc,xa,xl⟩:=x;simp only[Tree.kind,Tree.steps,Tree.cell,Tree.pos,Tree.kids]at e;simp only[aE,ax,Tree.kind,Tree.steps,Tree.cell,Tree.pos,Tree.kids]at hx hT2;refine fp (dE ?_);refine bG ?_;simp only[dv,di,cF,cG,cH,cM,mem_set,eQ,go_sem]
   try simp only[dv,di,cF,cG,cH,cM,mem_set,eQ,go_sem]
   refine⟨(by simp[vb,hlt]<;>omega),(by simp[vb,hlt]<;>omega),?_⟩;refine fp (lh (t:=decide ((i:Int)<ks.length)) rfl ?_);rw[decide_eq_true (by omega:(i:Int)<ks.length),cond_true];refine xE ?_;refine fp (ur ?_);refine fp (dE ?_);refine bw [ξ 20 (.agg [.int .i64 xk,aj xs,.int .i64 xc,.int .i64 xa,aw xl])] ?_;simp only[dv,di,cF,cG,cH,cM,mem_set,eQ,go_sem];try simp only[dv,di,cF,cG,cH,cM,mem_set,eQ,go_sem]
   refine⟨(by simp[vb,e,hle,hlt]<;>omega),(by simp[vb,e,hle,hlt]<;>omega),?_⟩;refine fp ?_;refine vv 4 [] [] ?_;simp only[xm,List.take_succ_cons,List.take_zero,List.drop_succ_cons,List.drop_zero,List.getElem?_cons_succ,List.getElem?_cons_zero,go_sem,cM,su,dv,j7 g1,j7 g2];refine⟨by simp[az,pM,jH];omega,trivial,trivial,_,_,_,.inl ⟨_,_,rfl,hx⟩,?_⟩;clear hx;have hk2:=Gt hG (.node xk xs xc xa xl) k' (lev+1) hkk;generalize qZ st k' (lev+1) (.node xk xs xc xa xl)=q at *;obtain⟨b,k2⟩:=q;simp only[go_sem,dv];cases b with
   |false =>
    refine⟨by simp[az],trivial,?_⟩;refine lh (t:=true) rfl ?_;rw[cond_true];refine dE ?_;subst hv;repeat' (first|((with_reducible first|show az _|show aB _);simp[vb]<;>omega)|exact(rfl:some _=_)|((fail_if_success refine aK ?_);refine bG ?_;(repeat1' dsimp only[HX,dv,ni,C8,go_sem]);first|refine aL ?_ ?_ rfl ?_|apply aM|apply aN|(refine aO (fun hc=>?_) fun hc=>?_<;>first|(cases hc;done)|(exfalso;simp at hc<;>omega)|(try simp only[bn]at hc;try contradiction))|skip))
    exact⟨rfl,[],_,rfl,trivial,by rw[List.append_assoc]⟩
   |true =>
    refine⟨by simp[az],trivial,?_⟩;refine lh (t:=false) rfl ?_;rw[cond_false];refine xE ?_;simp only[dv,ni];refine dE ?_;refine bG ?_;simp only[dv,ni,di,cF,cG,cH,cM,mem_set,eQ,go_sem];try simp only[dv,ni,di,cF,cG,cH,cM,mem_set,eQ,go_sem]
    refine⟨(by simp[vb,hlt]<;>omega),(by simp[vb,hlt]<;>omega),?_⟩;exact⟨_,by omega,i+1,by omega,rfl,hv,by (repeat' (first|exact trivial|refine And.intro (by first|rfl|(simp[get,Nat.beq]<;>omega)|(dsimp only[get];congr 1<;>first|rfl|omega|(simp<;>omega))) ?_)),_,by rw[List.append_assoc],by rw[←List.append_assoc];exact hT2,hk2 rfl⟩
  obtain rfl:i=ks.length:=by omega
  refine fp (dE ?_);refine bG ?_;simp only[dv,di,cF,cG,cH,cM,mem_set,eQ,go_sem];try simp only[dv,di,cF,cG,cH,cM,mem_set,eQ,go_sem]
  refine⟨(by simp[vb,hlt]<;>omega),(by simp[vb,hlt]<;>omega),?_⟩;refine fp (lh (t:=decide ((ks.length:Int)<ks.length)) rfl ?_);rw[decide_eq_false (by omega:¬(ks.length:Int)<ks.length),cond_false];refine Dt ?_;simp only[dv,ni,Nat.beq_refl,cond_true];refine dE ?_;rw[List.drop_length,iN]at hv;subst hv;repeat' (first|((with_reducible first|show az _|show aB _);simp[vb]<;>omega)|exact(rfl:some _=_)|((fail_if_success refine aK ?_);refine bG ?_;(repeat1' dsimp only[HX,dv,ni,C8,go_sem]);first|refine aL ?_ ?_ rfl ?_|apply aM|apply aN|(refine aO (fun hc=>?_) fun hc=>?_<;>first|(cases hc;done)|(exfalso;simp at hc<;>omega)|(try simp only[bn]at hc;try contradiction))|skip))
  exact⟨rfl,[],_,rfl,trivial,rfl⟩
end
section
open Rf
def JM:av:=(⟨_,by conv=>(lhs;reduce;try simp only[G4,Int.cast_ofNat_Int,Int.reduceNegSucc,UInt8.reduceOfNat])⟩:{x // codeOf Tryz.prog 67 (fun _=>false)=some x}).1
theorem I3:bo Tryz.prog 67 (fun _=>false)=some (JM,[],8,true):=by kernel_rfl
def I4:av:=(⟨_,by conv=>(lhs;reduce;try simp only[G4,Int.cast_ofNat_Int,Int.reduceNegSucc,UInt8.reduceOfNat])⟩:{x // codeOf Tryz.prog 38 (fun _=>false)=some x}).1
theorem I5:bo Tryz.prog 38 (fun _=>false)=some (I4,[.t 2],4,true):=by kernel_rfl
theorem sP (t:Tree) (μ:AM) (hμ:aS μ μ.length=true):aF ctx 38 [.pv (aE t)] μ (.fn 67 [.ptr μ.length 0 0]) (μ++[ax t]):=by
 refine bc (C:=ctx) (Fn.of I5 rfl) rfl (by simp) (by simp[cZ,Nat.blt]) (oB hμ t) ?_;unfold I4;refine bG ?_;simp only[aE,ax,di,cF,cG,cH,cM,mem_set,eQ,go_sem];try simp only[aE,ax,di,cF,cG,cH,cM,mem_set,eQ,go_sem]
 refine⟨(by simp[vb]<;>omega),(by simp[vb]<;>omega),?_⟩;refine bG ?_;simp only[aE,ax,di,cF,cG,cH,cM,mem_set,eQ,go_sem];try simp only[aE,ax,di,cF,cG,cH,cM,mem_set,eQ,go_sem]
 refine⟨(by simp[vb]<;>omega),(by simp[vb]<;>omega),?_⟩;repeat' (first|((with_reducible first|show az _|show aB _);simp[vb]<;>omega)|exact(rfl:some _=_)|((fail_if_success refine aK ?_);refine bG ?_;(repeat1' dsimp only[I4,go_sem]);first|refine aL ?_ ?_ rfl ?_|apply aM|apply aN|(refine aO (fun hc=>?_) fun hc=>?_<;>first|(cases hc;done)|(exfalso;simp at hc<;>omega)|(try simp only[bn]at hc;try contradiction))|skip))
 exact⟨⟨trivial,rfl⟩,[],(List.append_nil _).symm⟩
variable {σ:Type} {X:Hg σ}
theorem ql (l:Nat) (st:σ→Int→Tree→Bool×σ) (G:σ→Prop) (hG:∀k lev t,G k→(st k lev t).1=true→G (st k lev t).2)
  (hY:∀(k:σ) (lev:Int) (t:Tree) (μ:AM),G k→aS μ μ.length=true→wt t≤1000000000→ -1000000000≤lev→lev≤3000000000→Bv (yB X) l [.pv (.int .i64 lev),.pv (aE t)] k μ (.pv (.bool (st k lev t).1)) (st k lev t).2 μ)
  (t:Tree) (hw:wt t≤1000000000) (k:σ) (hk:G k) :
  HN (yB X) 67 [.pv (.val (.func (.yield l) #[] #[])),.iptr [.int .i64 t.kind,aj t.steps,.int .i64 t.cell,.int .i64 t.pos,aw t.kids] 0] k [] (.pv (.tup [])) (qZ st k 1 t).2 []:=by
 refine C9 (F:=yB X) (k:=k) (Fn.of (C:=(yB X).C k) I3 rfl) rfl (Nat.le_refl _) rfl rfl ?_;unfold JM;refine fp (dE ?_);refine bG ?_;dsimp only[dv,go_sem];try dsimp only[dv,go_sem]
 refine⟨(by simp[vb]<;>omega),(by simp[vb]<;>omega),?_⟩;refine fp (dE ?_);refine bG ?_;dsimp only[dv,go_sem];try dsimp only[dv,go_sem]
 refine⟨(by simp[vb]<;>omega),(by simp[vb]<;>omega),?_⟩;refine fp (dE ?_);refine bG ?_;dsimp only[dv,go_sem];try dsimp only[dv,go_sem]
 refine⟨(by simp[vb]<;>omega),(by simp[vb]<;>omega),?_⟩;refine vv 2 [] [] ?_;simp only[xm,List.take_succ_cons,List.take_zero,List.drop_succ_cons,List.drop_zero,List.getElem?_cons_succ,List.getElem?_cons_zero,go_sem,su,dv];refine⟨by simp[az],trivial,trivial,_,_,_,.inl ⟨_,_,rfl,Du l 0 1 _ _ st G hG hY t hw k 1 _ hk rfl (by omega) (by omega) rfl rfl⟩,?_⟩;generalize qZ st k 1 t=q;obtain⟨b,k2⟩:=q;simp only[go_sem,dv,C8];refine⟨by simp[az],trivial,?_⟩;exact⟨trivial,[],_,rfl,trivial,rfl⟩
end
section
open Rf
def I6:av:=(⟨_,by conv=>(lhs;reduce;try simp only[G4,Int.cast_ofNat_Int,Int.reduceNegSucc,UInt8.reduceOfNat])⟩:{x // codeOf Tryz.prog 15 (fun _=>false)=some x}).1
theorem I7:bo Tryz.prog 15 (fun _=>false)=some (I6,[.t 2],16,true):=by kernel_rfl
def I8:av:=(⟨_,by conv=>(lhs;reduce;try simp only[G4,Int.cast_ofNat_Int,Int.reduceNegSucc,UInt8.reduceOfNat])⟩:{x // codeOf Tryz.prog 17 (fun _=>false)=some x}).1
theorem I9:bo Tryz.prog 17 (fun _=>false)=some (I8,[.t 2],13,true):=by kernel_rfl
def Ja:av:=(⟨_,by conv=>(lhs;reduce;try simp only[G4,Int.cast_ofNat_Int,Int.reduceNegSucc,UInt8.reduceOfNat])⟩:{x // codeOf Tryz.prog 13 (fun _=>false)=some x}).1
theorem Jb:bo Tryz.prog 13 (fun _=>false)=some (Ja,[.cell 2 1 false],27,true):=by kernel_rfl
end
section
open Go.Shelf
theorem Dv {P:Program} {T:TypeId} {c:Nat} (hd:P.depth≠0) (hc:P.cellsOf T=2) (h:2≤c):liesAt P P.depth T (c / P.cellsOf T) 0 T 1=true:=by
 obtain⟨d,hd⟩:=Nat.exists_eq_succ_of_ne_zero hd;have h1:sameLayout P P.depth T T=true:=by rw[hd];simp[sameLayout]
 have h2:rowAt P (sameLayout P P.depth · T) P.depth T (c / P.cellsOf T) 0 1=true:=by
  rw[hc];have:1≤c / 2:=by omega
  rw[hd]at h1 ⊢;simp[rowAt,hc,this,h1]
 rw[hd]at h2 ⊢;simp only[liesAt];rw[hd];simp[h2]
set_option maxRecDepth 100000 in
theorem ra {P:Program} {ρ:Ren} (L:Go.Proofs.Lays.n240 P ρ) (X:Builder.X72 P ρ) (hd:P.depth≠0) (hc2:P.cellsOf (ρ.t 72)=2) (b c:Nat) (hc:2≤c) (w:World) (h0:w.cell? ⟨b,0,none⟩=some (.pointer none)) (hsh:w.shape? b=some ((ρ.t 72),c)) (hfz:w.frozen? ⟨b,0,none⟩=false) :
  Calls P (ρ.f 240) #[.pointer (some ⟨b,0,none⟩)] w fun e w'=>e= .returned (.tuple #[])∧w'=w.setCell ⟨b,0,none⟩ (.pointer (some ⟨b,0,none⟩)):=by
 obtain⟨j,hj,hjs⟩:=Option.map_eq_some_iff.1 X.sizeBuilder;have mixed:=L.mixed;have t72:=L.t72;have a72:=L.a72;have z72:=L.z72;have v72:=L.v72;have u72:=run_underlying L.t72;have t70:=L.t70;have a70:=L.a70;have z70:=L.z70;have v70:=L.v70;have u70:=run_underlying L.t70;have t9:=L.t9;have a9:=L.a9;have z9:=L.z9;have v9:=L.v9;have u9:=run_underlying L.t9;have t4:=L.t4;have a4:=L.a4;have z4:=L.z4;have v4:=L.v4;have u4:=run_underlying L.t4;have t164:=L.t164;have a164:=L.a164;have z164:=L.z164;have v164:=L.v164;have u164:=run_underlying L.t164;go_enter L.f240,Go.Proofs.Body.n240_ntmps ρ
 go_wp2
 rw[Lib.run_to_unsafe w ⟨b,0,none⟩ L.t70 L.t164 hj (by rw[hjs];decide) hsh (Nat.lt_of_lt_of_le Nat.zero_lt_two hc)];simp only[Result.andThen];rw[Oper.upon_value];go_wp2
 rw[run_callFunc_extern L.f276 (by kernel_rfl) (by kernel_rfl) (by kernel_rfl) (e:=Extern.AbiNoEscape.same) (by kernel_rfl)];rw[Lib.run_noEscape];simp only[Result.andThen];rw[Oper.upon_value];go_wp2
 rw[Lib.run_from_unsafe w ⟨b,0,none⟩ L.t164 L.t70 hj hsh (Dv hd hc2 hc)];simp only[Result.andThen];rw[Oper.upon_value];go_wp2
 go_end0
 exact⟨rfl,rfl⟩
theorem zy {α β:Type} {R:α→β→Prop} {a:α} {m:List β} (h:PW R [a] m):∃b,m=[b]∧R a b:=by
 obtain⟨hl,hat⟩:=h;match m,hl with
 |[b],_=>exact⟨b,rfl,hat 0 a b rfl rfl⟩
def vE (x y:AV) (g:Nat):eN:=⟨[x,y],g,2,78,false⟩
theorem rb {μ:AM} {b g:Nat} {y:AV} (hk:μ[b]?=some (vE (.pv (.val (.pointer none))) y g)):aF ctx 111 [.ptr b g 0] μ (.pv (.tup [])) (μ.set b (vE (.ptr b g 0) y g)):=by
 refine⟨by kernel_rfl,fun w0 S γ w vs hW hp=>?_⟩;obtain⟨v,rfl,hv⟩:=zy hp;obtain⟨e,cs,he,hgen,hsz,hheap,hcs,hlen,hcells,hB,hS⟩:=hW.mem.blk b _ hk (by simp[vE]);replace hheap:=hheap.free rfl;have hxv:v= .pointer (some ⟨e.cb,0,none⟩):=by
  cases hv with
  |ptr _ _ _ _ e' ad hb hg' hv' hs' =>
   rw[he]at hb;injection hb with hb;subst hb
   exact hs' hgen.symm
 subst hxv;obtain⟨v0,c0,r0,-⟩:=hcells 0 _ rfl;obtain⟨v1,c1,r1,o1⟩:=hcells 1 _ rfl;have r0:=gH r0;subst r0;have hcs2:2≤cs.size:=by have:2≤e.cap:=hlen;omega
 have hcell:w.cell? ⟨e.cb,0,none⟩=some (.pointer none):=by simp[World.cell?,hheap,c0]
 have hshape:w.shape? e.cb=some (78,cs.size):=by simp[World.shape?,hheap];rfl
 have hcall:=ra At HW (by decide) (by kernel_rfl) e.cb cs.size hcs2 w hcell hshape (Lib.frozen_of_heap hheap 0);refine hcall.mono ?_;rintro e' w' ⟨rfl,rfl⟩;rw[setCell_eq_setRow w e.cb 0 cs _ _ _ hheap];obtain⟨hW',hE⟩:=hW.write hk he hheap hcs (by simp[vE]) rfl (avs:=[.ptr b g 0,y]) (ncs:=cs.setIfInBounds 0 (.pointer (some ⟨e.cb,0,none⟩))) (by simp) (by simp;omega) fun i x hx=>by
  match i,hx with
  |0,hx =>
   injection hx with hx;subst hx
   exact⟨_,by rw[Array.getElem?_setIfInBounds_self_of_lt (by omega)],hv,rfl⟩
  |1,hx =>
   injection hx with hx;subst hx
   exact⟨v1,by rw[Array.getElem?_setIfInBounds_ne (by decide)];exact c1,r1,o1⟩
  |i+2,hx=>simp at hx
 exact⟨_,S,γ,rfl,hE,hW',.pv _ _ (.tup _ _ rfl (fun i p c h=>by simp at h))⟩
theorem re {μ:AM} {b g:Nat} {y:AV} (hk:μ[b]?=some (vE (.ptr b g 0) y g)):aF ctx 111 [.ptr b g 0] μ (.pv (.tup [])) μ:=by
 refine⟨by kernel_rfl,fun w0 S γ w vs hW hp=>?_⟩;obtain⟨v,rfl,hv⟩:=zy hp;obtain⟨e,cs,he,hgen,hsz,⟨_,hheap,-⟩,hcs,hlen,hcells,hB,hS⟩:=hW.mem.blk b _ hk (by simp[vE]);have ptrv:∀{u:Value},VR w S γ (.ptr b g 0) u→u= .pointer (some ⟨e.cb,0,none⟩):=fun {u} hv=>by
  cases hv with
  |ptr _ _ _ _ e' ad hb hg' hv' hs' =>
   rw[he]at hb;injection hb with hb;subst hb
   exact hs' hgen.symm
 have hxv:=ptrv hv;subst hxv;obtain⟨v0,c0,r0,-⟩:=hcells 0 _ rfl;have r0:=ptrv r0;subst r0;have hcell:w.cell? ⟨e.cb,0,none⟩=some (.pointer (some ⟨e.cb,0,none⟩)):=by simp[World.cell?,hheap,c0]
 have hcall:=Go.Proofs.Any.Builder_copyCheck_used At HW e.cb w hcell;refine hcall.mono ?_;rintro e' w' ⟨rfl,rfl⟩;exact⟨_,S,γ,rfl,.refl _ _ _,hW,.pv _ _ (.tup _ _ rfl (fun i p c h=>by simp at h))⟩
def Gu:av:=(⟨_,by conv=>(lhs;reduce;try simp only[G4,Int.cast_ofNat_Int,Int.reduceNegSucc,UInt8.reduceOfNat])⟩:{x // codeOf Tryz.prog 83 (fun _=>false)=some x}).1
theorem Hh:bo Tryz.prog 83 (fun _=>false)=some (Gu,[.t 4,.t 5],19,true):=by kernel_rfl
def zz (l:List UInt8) (j:Nat):eN:=⟨iZ l,j,1,5,false⟩
def Gv:av:=(⟨_,by conv=>(lhs;reduce;try simp only[G4,Int.cast_ofNat_Int,Int.reduceNegSucc,UInt8.reduceOfNat])⟩:{x // codeOf Tryz.prog 51 (fun _=>false)=some x}).1
theorem Hi:bo Tryz.prog 51 (fun _=>false)=some (Gv,[.t 2],8,true):=by kernel_rfl
set_option maxRecDepth 100000 in
theorem BI {P:Program} {ρ:Ren} (L:Go.Proofs.Lays.n169 P ρ) (X:Builder.Extra P ρ) (b g cap:Nat) (cur:Array Value) (l:List UInt8) (w:World) (h0:l≠[])
  (hc1:w.cell? ⟨b,1,none⟩=some (.slice (some ⟨g,0,none⟩) l.length cap)) (hg:w.heap[g]?=some (.cells cur (ρ.t 5) (0,0))) (hcap:l.length≤cap) (hcm:cap≤maxLen) (hcur:l.length≤cur.size)
  (hcells:∀(j:Nat) x,l[j]?=some x→cur[j]?=some (.int .u8 x.toNat)) :
  Calls P (ρ.f 169) #[.pointer (some ⟨b,0,none⟩)] w fun e w'=>e= .returned (.string ⟨l.toArray⟩)∧w'=w.drew.freeze ⟨g,0,none⟩ l.length:=by
 have hl0:l.length≠0:=by simpa using h0
 have c1:w.drew.cell? ⟨b,1,none⟩=some (.slice (some ⟨g,0,none⟩) l.length cap):=hc1;have hSD:(Builtin.unsafeSliceData_ #[(ρ.t 37)] (ρ.t 127) #[.slice (some ⟨g,0,none⟩) l.length cap]).run P w.drew= .ok (.pointer (some ⟨g,0,none⟩)) w.drew :=
  Lib.run_unsafeSliceData_row _ _ _ _ _ _ (by omega)
 have hUS:(Builtin.unsafeString_ #[(ρ.t 127),(ρ.t 3)] (ρ.t 9) #[.pointer (some ⟨g,0,none⟩),.int .i64 l.length]).run P w.drew= .ok (.string ⟨l.toArray⟩) (w.drew.freeze ⟨g,0,none⟩ l.length):=by
  refine Lib.run_unsafeString_row w.drew (ρ.t 127) (ρ.t 3) (ρ.t 9) (ρ.t 5) L.t127 X.cellsByte g cur.size (by have hg':w.drew.heap[g]?=some (.cells cur (ρ.t 5) (0,0)):=hg;simp[World.shape?,hg']) l h0 (by omega) (by unfold maxLen at hcm;omega) ?_;intro j x hx;have hg':w.drew.heap[g]?=some (.cells cur (ρ.t 5) (0,0)):=hg;rw[Addr.add_lit,Nat.zero_add];simp[World.cell?,hg',hcells j x hx]
 have mixed:=L.mixed;have t72:=L.t72;have a72:=L.a72;have z72:=L.z72;have v72:=L.v72;have u72:=run_underlying L.t72;have t70:=L.t70;have a70:=L.a70;have z70:=L.z70;have v70:=L.v70;have u70:=run_underlying L.t70;have t37:=L.t37;have a37:=L.a37;have z37:=L.z37;have v37:=L.v37;have u37:=run_underlying L.t37;have t127:=L.t127;have a127:=L.a127;have z127:=L.z127;have v127:=L.v127;have u127:=run_underlying L.t127;have t3:=L.t3;have a3:=L.a3;have z3:=L.z3;have v3:=L.v3;have u3:=run_underlying L.t3;have t9:=L.t9;have a9:=L.a9;have z9:=L.z9;have v9:=L.v9;have u9:=run_underlying L.t9
 have t5:=X.t5;have a5:=X.a5;have z5:=X.z5;have v5:=X.v5;have u5:=run_underlying X.t5;go_enter L.f169,Go.Proofs.Body.n169_ntmps ρ
 go_wp2
 go_region_o
 all_goals (go_wp2;go_ret;exact⟨rfl,rfl⟩)
theorem Wd.froze {C:Ctx} {w0 w:World} {S:Nat→Prop} {γ:Gh} {μ:AM} (hW:Wd C w0 S γ μ w) {b:Nat} {k:eN} {e:tG} {cs:Array Value} {w':World} {fz:Nat×Nat} (hk:μ[b]?=some k) (he:γ b=some e) (hheap:w.heap[e.cb]?=some (.cells cs k.elem (0,0))) (hz:k.sz≠0) (hfz:k.frozen=false)
  (hos:w'.os=w.os) (htape:w'.tape=w.tape) (hout:w'.output=w.output) (hsize:w.heap.size=w'.heap.size) (hblk:∀g,g≠e.cb→w'.heap[g]?=w.heap[g]?) (hrow:w'.heap[e.cb]?=some (.cells cs k.elem fz)) :
  Wd C w0 S γ (μ.set b {k with frozen:=true}) w'∧Ext w S γ w' S γ:=by
 obtain⟨e',cs',he',hgen,hsz,hheap',hcs',hlen',hcells,hB,hS⟩:=hW.mem.blk b k hk hz;rw[he]at he';injection he' with he';subst he'
 replace hheap':=hheap'.free hfz;rw[hheap]at hheap';injection hheap' with hheap';injection hheap' with hheap';subst hheap'
 have hE:Ext w S γ w' S γ:=⟨⟨fun _ h=>h,fun g hg=>hblk g (fun h=>hS hfz (h▸hg))⟩,fun b e h=>⟨e,h,Nat.le_refl _,fun _=>rfl⟩,fun _ h=>.inl h,fun b e h=>.inl ⟨b,e,h,rfl⟩,by omega,fun g _ hn=>hblk g (fun h=>hn b e he h.symm)⟩
 refine⟨⟨⟨fun b' k' hk' hz'=>?_,fun b' k' hk' hz'=>?_,fun b' hb'=>hW.mem.none b' (by simpa using hb'),hW.mem.inj⟩,?_,fun g hg=>by have:=hW.live g hg;omega,hW.env⟩,hE⟩
 ·by_cases hbb:b=b'
  ·subst hbb;have hbl:b<μ.length:=(List.getElem?_eq_some_iff.mp hk).1;rw[List.getElem?_set_self hbl]at hk';injection hk' with hk'
   subst hk';exact⟨e,cs,he,hgen,hsz,⟨fz,hrow,fun h=>by cases h⟩,hcs',hlen',fun i x hx=>by
    obtain⟨v,h1,h2,h3⟩:=hcells i x hx;exact⟨v,h1,h2.ext hE,h3⟩,hB,fun h=>by cases h⟩
  rw[List.getElem?_set_ne hbb]at hk';obtain⟨e2,cs2,h1,h2,h3,h4,h5,h6,h7,h8,h9⟩:=hW.mem.blk b' k' hk' hz';have hne:e2.cb≠e.cb:=fun h=>hbb (hW.mem.inj b b' e e2 he h1 h.symm)
  exact⟨e2,cs2,h1,h2,h3,h4.congr (hblk e2.cb hne) rfl id,h5,h6,fun i x hx=>by
   obtain⟨v,g1,g2,g3⟩:=h7 i x hx;exact⟨v,g1,g2.ext hE,g3⟩,h8,h9⟩
 ·have hbb:b≠b':=fun h=>by
   subst h;have hbl:b<μ.length:=(List.getElem?_eq_some_iff.mp hk).1;rw[List.getElem?_set_self hbl]at hk';injection hk' with hk'
   subst hk';exact hz hz'
  rw[List.getElem?_set_ne hbb]at hk';obtain⟨e2,h1,h2,h3,h4,h5,h6⟩:=hW.mem.mp b' k' hk' hz';have hne:e2.cb≠e.cb:=fun h=>hbb (hW.mem.inj b b' e e2 he h1 h.symm)
  exact⟨e2,h1,h2,h3,h4.ext hE (hblk e2.cb hne),h5,h6⟩
 exact hW.below.trans ⟨hos,htape,hout,by omega,fun g hg=>hblk g (by omega)⟩
theorem zA {μ:AM} {b g r j:Nat} {x:AV} {l:List UInt8} (h0:l≠[]) (hk:μ[b]?=some (vE x (.ref r j 0 l.length) g)) (hr:μ[r]?=some (zz l j)) :
  aF ctx 52 [.ptr b g 0] μ (.pv (.str l)) (μ.set r {zz l j with frozen:=true}):=by
 refine⟨by kernel_rfl,fun w0 S γ w vs hW hp=>?_⟩;obtain⟨v,rfl,hv⟩:=zy hp;obtain⟨e,cs,he,hgen,hsz,⟨_,hheap,-⟩,hcs,hlen,hcells,hB,hS⟩:=hW.mem.blk b _ hk (by simp[vE]);have hxv:v= .pointer (some ⟨e.cb,0,none⟩):=by
  cases hv with
  |ptr _ _ _ _ e' ad hb hg' hv' hs' =>
   rw[he]at hb;injection hb with hb;subst hb
   exact hs' hgen.symm
 subst hxv;obtain⟨er,cur,he2,hgen2,hsz2,hheap2,hcs2,hlen2,hcells2,hB2,hS2⟩:=hW.mem.blk r _ hr (by simp[zz]);replace hheap2:=hheap2.free rfl;obtain⟨v1,c1,r1,-⟩:=hcells 1 _ rfl;have hll:l.length≠0:=by simpa using h0
 obtain⟨cap,hv1,hcapc,hncap,hcapm⟩:∃cap,v1= .slice (some ⟨er.cb,0,none⟩) l.length cap∧0+cap*er.sz=er.cap∧l.length≤cap∧cap≤maxLen:=by
  cases r1 with
  |ref _ _ _ _ _ e' ad c hb hg' hvc' hs' =>
   rw[he2]at hb;injection hb with hb;subst hb
   rcases hs' hgen2.symm with h|⟨-,h,-⟩
   ·exact h
   exact absurd h (by simp[zz])
 subst hv1;have hcell:w.cell? ⟨e.cb,1,none⟩=some (.slice (some ⟨er.cb,0,none⟩) l.length cap):=by simp[World.cell?,hheap,c1]
 have hbl:(iZ l).length≤er.cap:=hlen2;rw[nL]at hbl;have hcall:=BI {Tryz.E8 with} Tryz.pf e.cb er.cb cap cur l w h0 hcell hheap2 hncap hcapm (by omega) fun j x hx=>by
  obtain⟨u,h1,h2,-⟩:=hcells2 j (.pv (.int .u8 x.toNat)) (by simp[zz,iZ,hx]);have h3:=cf h2;cases h3;exact h1
 refine hcall.mono ?_;rintro e' w' ⟨rfl,rfl⟩;obtain⟨hW1,hE1⟩:=hW.drew;have hfz:(w.drew.freeze ⟨er.cb,0,none⟩ l.length).heap[er.cb]?=some (.cells cur 5 (0,0+l.length)):=by
  have hg':w.drew.heap[er.cb]?=some (.cells cur 5 (0,0)):=hheap2;unfold World.freeze;rw[if_neg hll];simp[Array.getElem?_modify,hg']
 obtain⟨hW2,hE2⟩:=Wd.froze hW1 (fz:=(0,0+l.length)) (w':=w.drew.freeze ⟨er.cb,0,none⟩ l.length) hr he2 hheap2 (by simp[zz]) rfl (by unfold World.freeze;rw[if_neg hll]) (by unfold World.freeze;rw[if_neg hll]) (by unfold World.freeze;rw[if_neg hll]) (by unfold World.freeze;rw[if_neg hll];simp) (fun g hg=>by
  unfold World.freeze;rw[if_neg hll];simp only[Array.getElem?_modify];rw[if_neg (fun h=>hg h.symm)]) hfz
 exact⟨_,S,γ,rfl,hE1.trans hE2,hW2,.pv _ _ (.str l)⟩
end
end Pur
end
section
namespace Rf
open Pur (aC)
def bL (x:aJ):Bool:=aC x.kind 0 1&&aC x.index 0 2048&&aC x.cell (if x.kind=1 then 0 else -1) 127
def gT (k c a:Int) (n:Nat):Bool :=
 if k=0 then decide (n=0)&&decide (c=0)&&decide (a=0)
 else if k=1 then decide (n=2)&&aC c 0 127&&aC a (-1000000) 1000000
 else if k=2 then decide (1≤n)&&decide (n≤1024)&&decide (c=0)&&decide (a=0)
 else false
def eA:Tree→Bool
 | .node k s c a l=>s.all bL&&gT k c a l.length&&(l.attach.map fun x=>eA x.1).all id
decreasing_by
 have:=List.sizeOf_lt_of_mem x.2;simp;omega
theorem cY (k:Int) (s:List aJ) (c a:Int) (l:List Tree):eA (.node k s c a l)=(s.all bL&&gT k c a l.length&&l.all eA):=by
 rw[eA,attach_map];congr 1;rw[List.all_map];rfl
end Rf
namespace Pur
open Go.RowKit
attribute [local go_sem] ξ bN gv ca bz cI ji List.map bA aP get put tmpsOf eK mB kU ly conds ev cond_true cond_false Nat.beq Nat.ble Nat.add quiet eL cW dn wg List.append_eq List.nil_append List.cons_append eJ eh ei ek eo ep eu iB iq eR mE fK calm quiet.isCallK dd List.getElem?_cons_zero List.getElem?_cons_succ bV cX cellsOf List.all bP List.length_cons List.length_nil gV br List.drop List.take List.getD Option.getD_some Ab Ac yX Ad Ae Af iJ kL iK iL setAt List.set Nat.reduceAdd Nat.reduceMul cR bM refsOf bT b8 scalar dk fN cv dj a6 after freeze iV lR aZ eX gx gk gN fQ fR dY fS fT fW fX fY fZ ga gf gg gi gj dZ ea ec eS mF bytesOf bX eF aX bY fe bU cS dm still cx fM dO gR bZ gO List.isEmpty ed ef eg Int.reduceToNat Nat.mul_one Nat.reduceSub vj eG c8 eY dL look eZ strip guarded jw jO gU dC gQ dB kC fU fV Bool.or_false Bool.or_true Bool.and_true Bool.and_false Nat.blt gu gW gy dx idxOf iW ko mC gr a6 qY
open Rf
theorem eB {α:Type} (p:α→Bool) (l:List α) (k:Nat) (d:α) (hk:k<l.length):(l.take (k+1)).all p=((l.take k).all p&&p (l.getD k d)):=by
 rw[aH l k d hk,List.all_append];simp
theorem lZ {α:Type} (p:α→Bool) (l:List α) (k:Nat) (d:α) (hk:k<l.length) (h:p (l.getD k d)=false):l.all p=false:=by
 cases hb:l.all p with
 |false=>rfl
 |true=>rw[List.all_eq_true.mp hb _ (aQ hk)]at h;cases h
end Pur
end
section
namespace Rf
def gB:Tree→Int→Int
 | .node _ s _ _ l,left=>l.attach.foldl (fun n x=>if n>left then n else n+gB x.1 (left-n)) (1+s.length)
decreasing_by
 have:=List.sizeOf_lt_of_mem x.2;simp;omega
def jb (left:Int):Int→List Tree→Int
 |n,[]=>n
 |n,t::r=>if n>left then n else jb left (n+gB t (left-n)) r
theorem uy (left:Int):∀(l:List Tree) (n:Int),n>left→l.foldl (fun n x=>if n>left then n else n+gB x (left-n)) n=n
 |[],_,_=>rfl
 |t::r,n,h=>by rw[List.foldl_cons,if_pos h];exact uy left r n h
theorem sQ (left:Int):∀(l:List Tree) (n:Int),l.foldl (fun n x=>if n>left then n else n+gB x (left-n)) n=jb left n l
 |[],_=>rfl
 |t::r,n=>by
  rw[List.foldl_cons,jb];by_cases h:n>left
  ·rw[if_pos h,if_pos h];exact uy left r n h
  rw[if_neg h,if_neg h];exact sQ left r _
theorem l4 (k:Int) (s:List aJ) (c a:Int) (l:List Tree) (left:Int):gB (.node k s c a l) left=jb left (1+s.length) l:=by
 rw[gB,←sQ];exact List.foldl_attach (l:=l) (f:=fun n x=>if n>left then n else n+gB x (left-n)) (b:=1+(s.length:Int))
theorem Av:∀(t:Tree) (left:Int),1≤gB t left∧gB t left≤wt t:=by
 refine Tree.ind fun k s c a l ih left=>?_
 have:∀(l:List Tree),(∀t∈l,∀left,1≤gB t left∧gB t left≤wt t)→∀n:Int,n≤jb left n l∧jb left n l≤n+iA l:=fun l=>by
  induction l with
  |nil=>intro _ n;simp[jb,iA]
  |cons t r ihr =>
   intro h n;rw[jb,iA];by_cases hn:n>left
   ·rw[if_pos hn];omega
   rw[if_neg hn];have h1:=h t (by simp) (left-n);have h2:=ihr (fun x hx=>h x (by simp[hx])) (n+gB t (left-n));omega
 have:=this l ih (1+s.length);rw[l4,cz];omega
theorem xF:∀(t:Tree) (left:Int),(wt t:Int)≤left→gB t left=wt t:=by
 refine Tree.ind fun k s c a l ih left hle=>?_
 have:∀(l:List Tree),(∀t∈l,∀left,(wt t:Int)≤left→gB t left=wt t)→∀n:Int,n+iA l≤left→jb left n l=n+iA l:=fun l=>by
  induction l with
  |nil=>intro _ n _;simp[jb,iA]
  |cons t r ihr =>
   intro h n hn;rw[iA]at hn ⊢;rw[jb,if_neg (by omega),h t (by simp) (left-n) (by omega),ihr (fun x hx=>h x (by simp[hx])) _ (by omega)];omega
 rw[cz]at hle ⊢;rw[l4,this l ih _ (by omega)];omega
theorem BJ:∀(t:Tree) (left:Int),gB t left≤left↔(wt t:Int)≤left:=by
 refine Tree.ind fun k s c a l ih left=>?_
 have:∀(l:List Tree),(∀t∈l,∀left,gB t left≤left↔(wt t:Int)≤left)→∀n:Int,jb left n l≤left↔n+iA l≤left:=fun l=>by
  induction l with
  |nil=>intro _ n;simp[jb,iA]
  |cons t r ihr =>
   intro h n;rw[jb,iA];by_cases hn:n>left
   ·rw[if_pos hn];omega
   rw[if_neg hn];have h1:=h t (by simp) (left-n);have h2:=ihr (fun x hx=>h x (by simp[hx])) (n+gB t (left-n));have h3:=Av t (left-n);by_cases h4:(wt t:Int)≤left-n
   ·have h5:gB t (left-n)=wt t:=by
     have:=h1.mpr h4;exact xF t (left-n) h4
    rw[h5]at h2 ⊢;rw[h2];omega
   have h5:¬gB t (left-n)≤left-n:=fun h=>h4 (h1.mp h)
   rw[h2];omega
 have:=this l ih (1+s.length);rw[l4,cz,this];omega
def gC (t:Tree):Bool:=decide (c7 t≤4096)&&decide (wt t≤65536)&&eA t
end Rf
namespace Pur
open Go.RowKit
attribute [local go_sem] ξ bN gv ca bz cI ji List.map bA aP get put tmpsOf eK mB kU ly conds ev cond_true cond_false Nat.beq Nat.ble Nat.add quiet eL cW dn wg List.append_eq List.nil_append List.cons_append eJ eh ei ek eo ep eu iB iq eR mE fK calm quiet.isCallK dd List.getElem?_cons_zero List.getElem?_cons_succ bV cX cellsOf List.all bP List.length_cons List.length_nil gV br List.drop List.take List.getD Option.getD_some Ab Ac yX Ad Ae Af iJ kL iK iL setAt List.set Nat.reduceAdd Nat.reduceMul cR bM refsOf bT b8 scalar dk fN cv dj a6 after freeze iV lR aZ eX gx gk gN fQ fR dY fS fT fW fX fY fZ ga gf gg gi gj dZ ea ec eS mF bytesOf bX eF aX bY fe bU cS dm still cx fM dO gR bZ gO List.isEmpty ed ef eg Int.reduceToNat Nat.mul_one Nat.reduceSub vj eG c8 eY dL look eZ strip guarded jw jO gU dC gQ dB kC fU fV Bool.or_false Bool.or_true Bool.and_true Bool.and_false Nat.blt gu gW gy dx idxOf iW ko mC gr a6 qY
open Rf
def c37:av:=(⟨_,by conv=>(lhs;reduce;try simp only[G4,Int.cast_ofNat_Int,Int.reduceNegSucc,UInt8.reduceOfNat])⟩:{x // codeOf Tryz.prog 37 (fun _=>false)=some x}).1
theorem Jc:bo Tryz.prog 37 (fun _=>false)=some (c37,[.t 4],32,true):=by kernel_rfl
theorem Fe:∀(t:Tree),wt t≤1000000000→∀left:Int,-2000000000≤left→left≤2000000000→aq ctx 37 [aE t,.int .i64 left] (.int .i64 (gB t left)):=by
 refine Tree.ind fun kd s c a l ih hw left h1 h2=>?_
 rw[cz]at hw;have hl:=j3 l;rw[l4];generalize hr:jb left (1+s.length) l=r;refine an (C:=ctx) (Fn.of Jc rfl) rfl ?_;unfold c37;repeat' (first|((with_reducible first|show az _|show aB _);simp[vb]<;>omega)|exact(rfl:some _=_)|((fail_if_success refine aK ?_);refine bG ?_;(repeat1' dsimp only[c37,aE,Tree.kind,Tree.steps,Tree.cell,Tree.pos,Tree.kids,aj,aw,go_sem]);first|refine aL ?_ ?_ rfl ?_|apply aM|apply aN|(refine aO (fun hc=>?_) fun hc=>?_<;>first|(cases hc;done)|(exfalso;simp at hc<;>omega)|(try simp only[bn]at hc;try contradiction))|skip))
 refine dD (σ:=Nat×Int) (fun q=>q.1≤l.length∧jb left q.2 (l.drop q.1)=r∧0≤q.2∧q.2≤1+s.length+iA (l.take q.1)) (fun q=>[(1,.pv (.int .i64 left)),(2,.ptr 0 0 0),(5,.pv (.int .i64 q.2)),(13,.pv (aw l)),(14,.pv (.int .i64 l.length)),(15,.pv (.int .i64 q.1))]) (fun _=>[ax (.node kd s c a l)]) (fun q=>l.length-q.1) (0,1+s.length) ⟨Nat.zero_le _,hr,by omega,by simp[iA]⟩ (by (repeat' (first|exact trivial|refine And.intro (by first|rfl|(simp[get,Nat.beq]<;>omega)|(dsimp only[get];congr 1<;>first|rfl|omega|(simp<;>omega))) ?_))) ⟨[],rfl⟩ (fun _ _=>⟨Nat.zero_le _,rfl,rfl⟩) fun q hP=>?_
 obtain⟨k,n⟩:=q;obtain⟨p1,p2,p3,p4⟩:=hP;simp only at p1 p2 p3 p4;have hwk:=sO l k;by_cases hlt:k<l.length
 ·have e:=gY l k hlt;have hle:=fa l;have hwx:wt (l.getD k zt)≤1000000000:=by have:=lY (aQ (d:=zt) hlt);omega
  have hx:=ih _ (aQ (d:=zt) hlt) hwx (left-n);have hb:=Av (l.getD k zt) (left-n);have hd:l.drop k=l.getD k zt::l.drop (k+1):=by rw[List.drop_eq_getElem_cons hlt,List.getD,List.getElem?_eq_getElem hlt];rfl
  have h3:=jj (l.take k) [l.getD k zt];rw[←aH l k zt hlt,iA,iA]at h3;rw[hd,jb]at p2;clear hd;generalize l.getD k zt=x at *;generalize gB x (left-n)=sx at *;generalize wt x=wx at *;obtain⟨k2,s2,c2,a2,l2⟩:=x;simp only[aE,Tree.kind,Tree.steps,Tree.cell,Tree.pos,Tree.kids]at e hx;by_cases hn:n>left
  ·rw[if_pos hn]at p2;repeat' (first|((with_reducible first|show az _|show aB _);(try dsimp only[go_sem]);first|(simp[vb,e,hle,hlt,hn,aj,aw]<;>omega)|(simp only[vb,and_true,true_implies];(repeat' (first|(with_reducible assumption)|(with_reducible apply And.intro)|intro _|((fail_if_success (with_reducible show(_:Int)≤_));assumption)))<;>first|omega|(simp only[ab,e,hle,hlt,hn,aj,aw];done)|(simp[e,hle,hlt,hn,aj,aw]<;>omega)))|exact(rfl:some _=_)|((fail_if_success refine aK ?_);refine bw [ξ 18 (.agg [.int .i64 k2,aj s2,.int .i64 c2,.int .i64 a2,aw l2])] ?_;(repeat1' dsimp only[c37,ax,Tree.kind,Tree.steps,Tree.cell,Tree.pos,Tree.kids,aj,aw,go_sem]);first|refine aL ?_ ?_ rfl ?_|apply aM|apply aN|(refine aO (fun hc=>?_) fun hc=>?_<;>first|(cases hc;done)|(exfalso;simp[e,hle,hlt,hn,aj,aw]at hc<;>omega)|(try simp only[bn]at hc;try contradiction))|skip))
   rw[p2]
  rw[if_neg hn]at p2;have hx:=hx (by omega) (by omega);repeat' (first|((with_reducible first|show az _|show aB _);(try dsimp only[go_sem]);first|(simp[vb,e,hle,hlt,hn,hx,hb,p3,p4,aj,aw]<;>omega)|(simp only[vb,and_true,true_implies];(repeat' (first|(with_reducible assumption)|(with_reducible apply And.intro)|intro _|((fail_if_success (with_reducible show(_:Int)≤_));assumption)))<;>first|omega|(simp only[ab,e,hle,hlt,hn,hx,hb,p3,p4,aj,aw];done)|(simp[e,hle,hlt,hn,hx,hb,p3,p4,aj,aw]<;>omega)))|exact(rfl:some _=_)|((fail_if_success refine aK ?_);refine aV [(37,fun _=>some (.int .i64 sx))] [ξ 18 (.agg [.int .i64 k2,aj s2,.int .i64 c2,.int .i64 a2,aw l2])] ?_;(repeat1' dsimp only[c37,ax,Tree.kind,Tree.steps,Tree.cell,Tree.pos,Tree.kids,aj,aw,go_sem]);first|refine aL ?_ ?_ rfl ?_|apply aM|apply aN|(refine aO (fun hc=>?_) fun hc=>?_<;>first|(cases hc;done)|(exfalso;simp[e,hle,hlt,hn,hx,hb,p3,p4,aj,aw]at hc<;>omega)|(try simp only[bn]at hc;try contradiction))|skip))
  exact⟨(k+1,n+sx),by show l.length-(k+1)<l.length-k;omega,⟨by show k+1≤_;omega,p2,by show 0≤n+sx;omega,by show n+sx≤_;rw[h3];omega⟩,by (repeat' (first|exact trivial|refine And.intro (by first|rfl|(simp[get,Nat.beq]<;>omega)|(dsimp only[get];congr 1<;>first|rfl|omega|(simp<;>omega))) ?_)),_,rfl⟩
 obtain rfl:k=l.length:=by omega
 repeat' (first|((with_reducible first|show az _|show aB _);simp[vb,hlt]<;>omega)|exact(rfl:some _=_)|((fail_if_success refine aK ?_);refine bG ?_;(repeat1' dsimp only[c37,ax,Tree.kind,Tree.steps,Tree.cell,Tree.pos,Tree.kids,aj,aw,go_sem]);first|refine aL ?_ ?_ rfl ?_|apply aM|apply aN|(refine aO (fun hc=>?_) fun hc=>?_<;>first|(cases hc;done)|(exfalso;simp[hlt]at hc<;>omega)|(try simp only[bn]at hc;try contradiction))|skip))
 rw[List.drop_length,jb]at p2;rw[p2]
def c12:av:=(⟨_,by conv=>(lhs;reduce;try simp only[G4,Int.cast_ofNat_Int,Int.reduceNegSucc,UInt8.reduceOfNat])⟩:{x // codeOf Tryz.prog 12 (fun _=>false)=some x}).1
theorem Jd:bo Tryz.prog 12 (fun _=>false)=some (c12,[.t 4],10,true):=by kernel_rfl
theorem uz (t:Tree) (hw:wt t≤1000000000) (left:Int) (h1: -2000000000≤left) (h2:left≤2000000000):aq ctx 12 [aE t,.int .i64 left] (.bool (decide ((wt t:Int)≤left))):=by
 have hs:=Fe t hw left h1 h2;rw[show decide ((wt t:Int)≤left)=decide (gB t left≤left) from by simp[BJ]];generalize gB t left=sz at *;unfold aE at hs;refine an (C:=ctx) (Fn.of Jd rfl) rfl ?_;unfold c12;repeat' (first|((with_reducible first|show az _|show aB _);(try dsimp only[go_sem]);first|(simp[vb,hs]<;>omega)|(simp only[vb,and_true,true_implies];(repeat' (first|(with_reducible assumption)|(with_reducible apply And.intro)|intro _|((fail_if_success (with_reducible show(_:Int)≤_));assumption)))<;>first|omega|(simp only[ab,hs];done)|(simp[hs]<;>omega)))|exact(rfl:some _=_)|((fail_if_success refine aK ?_);refine du [(37,fun _=>some (.int .i64 sz))] ?_;(repeat1' dsimp only[c12,aE,go_sem]);first|refine aL ?_ ?_ rfl ?_|apply aM|apply aN|(refine aO (fun hc=>?_) fun hc=>?_<;>first|(cases hc;done)|(exfalso;simp[hs]at hc<;>omega)|(try simp only[bn]at hc;try contradiction))|skip))
end Pur
end
section
namespace Rf
end Rf
namespace Pur
open Go.RowKit
attribute [local go_sem] ξ bN gv ca bz cI ji List.map bA aP get put tmpsOf eK mB kU ly conds ev cond_true cond_false Nat.beq Nat.ble Nat.add quiet eL cW dn wg List.append_eq List.nil_append List.cons_append eJ eh ei ek eo ep eu iB iq eR mE fK calm quiet.isCallK dd List.getElem?_cons_zero List.getElem?_cons_succ bV cX cellsOf List.all bP List.length_cons List.length_nil gV br List.drop List.take List.getD Option.getD_some Ab Ac yX Ad Ae Af iJ kL iK iL setAt List.set Nat.reduceAdd Nat.reduceMul cR bM refsOf bT b8 scalar dk fN cv dj a6 after freeze iV lR aZ eX gx gk gN fQ fR dY fS fT fW fX fY fZ ga gf gg gi gj dZ ea ec eS mF bytesOf bX eF aX bY fe bU cS dm still cx fM dO gR bZ gO List.isEmpty ed ef eg Int.reduceToNat Nat.mul_one Nat.reduceSub vj eG c8 eY dL look eZ strip guarded jw jO gU dC gQ dB kC fU fV Bool.or_false Bool.or_true Bool.and_true Bool.and_false Nat.blt gu gW gy dx idxOf iW ko mC gr a6 qY
open Rf
end Pur
end
section
namespace Rf
open Pur (aC)
structure Rg where
 lo:Int
 hi:Int
 deriving DecidableEq
structure Tm where
 cell:Int
 fac:Int
 deriving DecidableEq
structure Rw where
 terms:List Tm
 bound:Int
 deriving DecidableEq
structure Gr where
 first:Int
 size:Int
 least:List Int
 deriving DecidableEq
structure Sy where
 box:List Rg
 rows:List Rw
 graphs:List Gr
 cases:List (List Rw)
def zr:Rg:=⟨0,0⟩
def zm:Tm:=⟨0,0⟩
def zw:Rw:=⟨[],0⟩
def zg:Gr:=⟨0,0,[]⟩
def kW (r:Rg):Bool:=aC r.lo (-1000000) 1000000&&aC r.hi (-1000000) 1000000
def bp (b:List Rg):Bool:=b.all kW&&decide (b.length≤128)
def dM (n:Int):Int→List Tm→Bool
 |_,[]=>true
 |last,t::r=>(decide (last<t.cell)&&decide (t.cell<n)&&decide (t.fac≠0)&&aC t.fac (-1000) 1000)&&dM n t.cell r
def cN (n:Int) (r:Rw):Bool:=dM n (-1) r.terms&&aC r.bound (-1000000000) 1000000000
def dN (b:List Rg) (l:List Rw):Bool:=bp b&&l.all (cN b.length)
def cA (r:Rg):Bool:=decide (r.hi<r.lo)
def bO (b:List Rg):Bool:=b.any cA
def fv (k:Int):Bool:=aC k (-4000000) 4000000
def bj (n:Int) (g:Gr):Bool:=aC g.size 1 6&&decide (0≤g.first)&&decide (g.first≤n-g.size*g.size)&&decide ((g.least.length:Int)=g.size*g.size)&&g.least.all fv
def fc (b:List Rg) (l:List Rw):Bool:=decide (l.length≤64)&&dN b l
def fC (s:Sy):Bool:=dN s.box s.rows&& !bO s.box&&decide (s.rows.length≤1024)&&decide (s.graphs.length≤64)&&decide (s.cases.length≤1024)&&s.graphs.all (bj s.box.length)&&s.cases.all (fc s.box)
def tR (b:List Rg) (t:Tm):Int:=if 0<t.fac then t.fac*(b.getD t.cell.toNat zr).lo else t.fac*(b.getD t.cell.toNat zr).hi
def dF (b:List Rg) (cell:Int):List Tm→Int
 |[]=>0
 |t::r=>(if t.cell=cell then 0 else tR b t)+dF b cell r
def kr (cell:Int):List Tm→Int
 |[]=>0
 |t::r=>if t.cell=cell then t.fac else kr cell r
def cB (r:Rw) (b:List Rg) (c:Int):Rg :=
 let x:=b.getD c.toNat zr
 let f:=kr c r.terms
 let rest:=r.bound-dF b c r.terms
 if f=0 then x else
 let y:Rg:=if 0<f then ⟨x.lo,min x.hi (rest / f)⟩ else ⟨max x.lo (-(rest / -f)),x.hi⟩
 if y.hi<y.lo then ⟨1,0⟩ else y
def b9 (r:Rw) (b:List Rg) (c:Int):Rg:=if dN b [r]=true∧0≤c∧c<b.length then cB r b c else zr
inductive Reach (n:Nat) (e:Nat→Nat→Bool) (a:Nat):Nat→Prop
 |here:Reach n e a a
 |step {b c:Nat}:Reach n e a b→c<n→e b c=true→Reach n e a c
def cC (g:Gr) (b:List Rg):List Bool:=(List.range g.least.length).map fun j=>decide (g.least.getD j 0≤(b.getD (g.first.toNat+j) zr).lo)
def bE (n:Nat) (l:List Bool) (u v:Nat):Bool:=l.getD (u*n+v) false
open Classical in
noncomputable def vF (n:Nat) (l:List Bool) (u v:Nat):Bool:=decide (Reach n (bE n l) u v)
noncomputable def gp (g:Gr) (b:List Rg) (k:Nat):Bool:=vF g.size.toNat (cC g b) (k % g.size.toNat) (k / g.size.toNat)
noncomputable def l5 (g:Gr) (b:List Rg) (k:Nat):Rg :=
 let x:=b.getD (g.first.toNat+k) zr
 if gp g b k then ⟨x.lo,min x.hi (g.least.getD k 0-1)⟩ else x
noncomputable def bR (s:Sy) (rows:List Rw) (b:List Rg) (x:aJ):List Rg×Bool×Bool :=
 if x.kind=1 then
  if x.index<s.graphs.length then
   let g:=s.graphs.getD x.index.toNat zg
   if g.first≤x.cell∧x.cell<g.first+g.least.length then
    let y:=l5 g b (x.cell-g.first).toNat
    (b.set x.cell.toNat y,true,cA y)
   else (b,false,false)
  else (b,false,false)
 else
  if x.index<rows.length∧x.cell<b.length then
   let r:=rows.getD x.index.toNat zw
   if x.cell<0 then (b,r.terms.isEmpty&&decide (r.bound<0),r.terms.isEmpty&&decide (r.bound<0))
   else
    let y:=b9 r b x.cell
    (b.set x.cell.toNat y,true,cA y)
  else (b,false,false)
noncomputable def bk (s:Sy) (rows:List Rw):List aJ→List Rg→Except Bool (List Rg)
 |[],b=>.ok b
 |x::l,b=>match bR s rows b x with
  |(b',p,c)=>if c then .error true else if p then bk s rows l b' else .error false
def Acc:=List Rw→List Rg→Bool→Bool
def kE (rows:List Rw) (b:List Rg):List Acc→List (List Rw)→Bool
 |f::r,c::cs=>f (rows++c) b true&&kE rows b r cs
 |_,_=>true
def nW (s:Sy) (k c a:Int) (l:List Acc) (rows:List Rw) (b:List Rg) (ch:Bool):Bool :=
 if k=1 then
  if c<b.length then
   let x:=b.getD c.toNat zr
   match l with
   |f::g::_=>f rows (b.set c.toNat ⟨x.lo,min x.hi a⟩) ch&&g rows (b.set c.toNat ⟨max x.lo (a+1),x.hi⟩) ch
   |_=>false
  else false
 else if k=2 then
  !ch&&decide (l.length=s.cases.length)&&kE rows b l s.cases
 else false
noncomputable def bf (s:Sy):Tree→Acc
 | .node k st c a l=>fun rows b ch =>
  if bO b then true else
  match bk s rows st b with
  | .error r=>r
  | .ok b'=>nW s k c a (l.attach.map fun x=>bf s x.1) rows b' ch
decreasing_by
 have:=List.sizeOf_lt_of_mem x.2;simp;omega
theorem fw (s:Sy) (k:Int) (st:List aJ) (c a:Int) (l:List Tree) (rows:List Rw) (b:List Rg) (ch:Bool):bf s (.node k st c a l) rows b ch =
  if bO b then true else match bk s rows st b with
  | .error r=>r
  | .ok b'=>nW s k c a (l.map (bf s)) rows b' ch:=by
 rw[bf];simp only[List.attach_map_subtype_val,List.map_attach_eq_pmap,List.pmap_eq_map]
noncomputable def iO (s:Sy) (t:Tree):Bool:=fC s&&gC t&&bf s t s.rows s.box false
theorem nq (s:Sy) (rows:List Rw):∀(l m:List aJ) (b:List Rg),bk s rows (l++m) b=match bk s rows l b with
  | .error r=>.error r
  | .ok b'=>bk s rows m b'
 |[],m,b=>rfl
 |x::l,m,b=>by
  rw[List.cons_append,bk,bk];generalize bR s rows b x=q;obtain⟨b',p,c⟩:=q;cases c<;>cases p<;>simp only[if_true,if_false,Bool.false_eq_true];exact nq s rows l m b'
theorem lp (s:Sy) (rows:List Rw) (b:List Rg) (x:aJ):(bR s rows b x).1.length=b.length:=by
 unfold bR;dsimp only;(repeat' split)<;>simp
theorem nr (s:Sy) (rows:List Rw):∀(l:List aJ) (b b':List Rg),bk s rows l b= .ok b'→b'.length=b.length
 |[],b,b',h=>by injection h with h;subst h;rfl
 |x::l,b,b',h=>by
  rw[bk]at h;have:=lp s rows b x;generalize bR s rows b x=q at *;obtain⟨b1,p,c⟩:=q;cases c<;>cases p<;>simp only[if_true,if_false,Bool.false_eq_true]at h
  ·cases h
  ·rw[nr s rows l b1 b' h];exact this
  ·cases h
  cases h
end Rf
namespace Pur
open Rf
def bS (r:Rg):List PV:=[.int .i64 r.lo,.int .i64 r.hi]
def aa (b:List Rg):PV:=.sl b.length (b.flatMap bS)
def gZ (t:Tm):List PV:=[.int .i64 t.cell,.int .i64 t.fac]
def ar (l:List Tm):PV:=.sl l.length (l.flatMap gZ)
def cg (r:Rw):List PV:=[ar r.terms,.int .i64 r.bound]
def ae (l:List Rw):PV:=.sl l.length (l.flatMap cg)
def aI (n:Int):List PV:=[.int .i64 n]
def au (l:List Int):PV:=.sl l.length (l.flatMap aI)
def dP (n:Bool):List PV:=[.bool n]
def bC (l:List Bool):PV:=.sl l.length (l.flatMap dP)
def jK (g:Gr):List PV:=[.int .i64 g.first,.int .i64 g.size,au g.least]
def ai (l:List Gr):PV:=.sl l.length (l.flatMap jK)
def sR (l:List Rw):List PV:=[ae l]
def ah (l:List (List Rw)):PV:=.sl l.length (l.flatMap sR)
theorem ia (x:Rg):(bS x).length=2:=rfl
theorem kO (x:Tm):(gZ x).length=2:=rfl
theorem ib (x:Rw):(cg x).length=2:=rfl
theorem Dw (x:Int):(aI x).length=1:=rfl
theorem BK (x:Bool):(dP x).length=1:=rfl
theorem l6 (x:Gr):(jK x).length=3:=rfl
theorem xG (x:List Rw):(sR x).length=1:=rfl
theorem bJ (l:List Rg):(l.flatMap bS).length=l.length*2:=b7 ia l
theorem fG (l:List Tm):(l.flatMap gZ).length=l.length*2:=b7 kO l
theorem da (l:List Rw):(l.flatMap cg).length=l.length*2:=b7 ib l
theorem cO (l:List Int):(l.flatMap aI).length=l.length*1:=b7 Dw l
theorem fH (l:List Bool):(l.flatMap dP).length=l.length*1:=b7 BK l
theorem pj (l:List Gr):(l.flatMap jK).length=l.length*3:=b7 l6 l
theorem kP (l:List (List Rw)):(l.flatMap sR).length=l.length*1:=b7 xG l
end Pur
end
section
namespace Rf
def qm (e:Nat→Nat→Bool) (l:List Int) (u:Nat) (s:List (List Int)×List Bool) (b:Nat):List (List Int)×List Bool :=
 if e u b=true∧s.2.getD b true=false then (s.1++[l++[(b:Int)]],s.2.set b true) else s
def l7 (n:Nat) (e:Nat→Nat→Bool) (l:List Int) (u:Nat) (q:List (List Int)) (seen:List Bool):List (List Int)×List Bool:=(List.range n).foldl (qm e l u) (q,seen)
def cP (l:List Int):Nat:=(l.getLastD 0).toNat
def pn (n:Nat) (e:Nat→Nat→Bool) (tg:Nat):Nat→List (List Int)→List Bool→List Int
 |0,_,_=>[]
 |_+1,[],_=>[]
 |f+1,l::r,seen=>if cP l=tg then l else pn n e tg f (l7 n e l (cP l) (l::r) seen).1.tail (l7 n e l (cP l) (l::r) seen).2
def eI:List Bool→Nat
 |[]=>0
 |b::r=>(if b then 0 else 1)+eI r
theorem ku:∀(s:List Bool) (b:Nat),s.getD b true=false→eI (s.set b true)+1=eI s
 |[],b,h=>by simp at h
 |x::r,0,h=>by
  simp at h;subst h;simp[eI];omega
 |x::r,b+1,h=>by
  have:=ku r b (by simpa using h);simp only[List.set_cons_succ,eI];omega
theorem oC:∀s:List Bool,eI s≤s.length
 |[]=>by simp[eI]
 |b::r=>by have:=oC r;simp only[eI,List.length_cons];split<;>omega
theorem uA (k:Nat) (e:Nat→Nat→Bool) (l:List Int) (u:Nat) (q:List (List Int)) (seen:List Bool):l7 (k+1) e l u q seen=qm e l u (l7 k e l u q seen) k:=by
 rw[l7,List.range_succ,List.foldl_append];rfl
structure Hj (n:Nat) (e:Nat→Nat→Bool) (fr:Nat) (q:List (List Int)) (seen:List Bool):Prop where
 len:seen.length=n
 ne:∀l∈q,l≠[]∧0≤l.getLastD 0∧cP l<n∧seen.getD (cP l) false=true∧l.length+eI seen≤n+1
 sr:∀v,seen.getD v false=true→Reach n e fr v
theorem hJ (s:List Bool) (b v:Nat) (d:Bool) (hb:b<s.length):(s.set b true).getD v d=if v=b then true else s.getD v d:=by
 rw[List.getD,List.getD];by_cases h:b=v
 ·subst h;simp[hb]
 rw[List.getElem?_set_ne h,if_neg (Ne.symm h)]
theorem Ff {s:List Bool} {b:Nat} (h:s.getD b true=false):b<s.length:=by
 apply Classical.byContradiction;intro hn;rw[List.getD,List.getElem?_eq_none (by omega)]at h;cases h
theorem qn (l:List Int) (b:Nat):cP (l++[(b:Int)])=b∧0≤(l++[(b:Int)]).getLastD 0:=by
 simp[cP]
theorem Dx {n:Nat} {e:Nat→Nat→Bool} {fr:Nat} {q:List (List Int)} {seen:List Bool} {l:List Int} (h:Hj n e fr q seen) (hl:l∈q) (b:Nat) (hb:b<n) :
  Hj n e fr (qm e l (cP l) (q,seen) b).1 (qm e l (cP l) (q,seen) b).2∧(qm e l (cP l) (q,seen) b).1.length+eI (qm e l (cP l) (q,seen) b).2=q.length+eI seen∧(∃m,(qm e l (cP l) (q,seen) b).1=q++m) ∧
  (e (cP l) b=true→(qm e l (cP l) (q,seen) b).2.getD b false=true)∧(∀v,seen.getD v false=true→(qm e l (cP l) (q,seen) b).2.getD v false=true) ∧
  (∀v,(qm e l (cP l) (q,seen) b).2.getD v false=true→seen.getD v false=true∨∃x∈(qm e l (cP l) (q,seen) b).1,cP x=v):=by
 unfold qm;split
 ·rename_i hc;obtain⟨h1,h2⟩:=hc;have hlt:=Ff h2;have hu:=ku seen b h2;obtain⟨g1,g2,g3,g4,g5⟩:=h.ne l hl;refine⟨⟨by simp[h.len],fun x hx=>?_,fun v hv=>?_⟩,by simp;omega,⟨_,rfl⟩,fun _=>by simp only;rw[hJ _ _ _ _ hlt,if_pos rfl],fun v hv=>by simp only;rw[hJ _ _ _ _ hlt];split<;>simp_all,fun v hv=>?_⟩
  ·rcases List.mem_append.mp hx with hx|hx
   ·obtain⟨q1,q2,q3,q4,q5⟩:=h.ne x hx;exact⟨q1,q2,q3,by simp only;rw[hJ _ _ _ _ hlt];split<;>simp_all,by simp only;omega⟩
   simp only[List.mem_singleton]at hx;subst hx;obtain⟨e1,e2⟩:=qn l b;refine⟨by simp,e2,by rw[e1];exact hb,by simp only;rw[e1,hJ _ _ _ _ hlt,if_pos rfl],by simp;omega⟩
  ·simp only at hv;rw[hJ _ _ _ _ hlt]at hv;split at hv
   ·rename_i hvb;subst hvb;exact .step (h.sr _ g4) hb h1
   exact h.sr v hv
  simp only at hv ⊢;rw[hJ _ _ _ _ hlt]at hv;split at hv
  ·rename_i hvb;exact .inr ⟨l++[(b:Int)],by simp,by rw[(qn l b).1,hvb]⟩
  exact .inl hv
 rename_i hc;refine⟨h,rfl,⟨[],(List.append_nil _).symm⟩,fun h1=>?_,fun v hv=>hv,fun v hv=>.inl hv⟩;have:seen.getD b true=true:=by
  cases hs:seen.getD b true with
  |true=>rfl
  |false=>exact absurd ⟨h1,hs⟩ hc
 have hlt:b<seen.length:=by rw[h.len];exact hb
 simp only[List.getD,List.getElem?_eq_getElem hlt,Option.getD_some]at this ⊢;exact this
theorem sS {n:Nat} {e:Nat→Nat→Bool} {fr:Nat} {q:List (List Int)} {seen:List Bool} {l:List Int} (h:Hj n e fr q seen) (hl:l∈q):∀(k:Nat),k≤n →
  Hj n e fr (l7 k e l (cP l) q seen).1 (l7 k e l (cP l) q seen).2∧(l7 k e l (cP l) q seen).1.length+eI (l7 k e l (cP l) q seen).2=q.length+eI seen∧(∃m,(l7 k e l (cP l) q seen).1=q++m) ∧
  (∀b,b<k→e (cP l) b=true→(l7 k e l (cP l) q seen).2.getD b false=true)∧(∀v,seen.getD v false=true→(l7 k e l (cP l) q seen).2.getD v false=true) ∧
  (∀v,(l7 k e l (cP l) q seen).2.getD v false=true→seen.getD v false=true∨∃x∈(l7 k e l (cP l) q seen).1,cP x=v)
 |0,_=>⟨h,rfl,⟨[],(List.append_nil _).symm⟩,fun b hb=>absurd hb (Nat.not_lt_zero _),fun v hv=>hv,fun v hv=>.inl hv⟩
 |k+1,hk=>by
  obtain⟨h1,h2,⟨m,h3⟩,h4,h5,h6⟩:=sS h hl k (by omega);rw[uA];generalize l7 k e l (cP l) q seen=s at *;obtain⟨q1,s1⟩:=s;simp only at *;obtain⟨g1,g2,⟨m2,g3⟩,g4,g5,g6⟩:=Dx h1 (l:=l) (by rw[h3];exact List.mem_append_left _ hl) k (by omega);refine⟨g1,by omega,⟨m++m2,by rw[g3,h3,List.append_assoc]⟩,fun b hb he=>?_,fun v hv=>g5 v (h5 v hv),fun v hv=>?_⟩
  ·by_cases hbk:b=k
   ·subst hbk;exact g4 he
   exact g5 b (h4 b (by omega) he)
  rcases g6 v hv with h|h
  ·rcases h6 v h with h|⟨x,hx,e⟩
   ·exact .inl h
   exact .inr ⟨x,by rw[g3];exact List.mem_append_left _ hx,e⟩
  exact .inr h
theorem uB {n:Nat} {e:Nat→Nat→Bool} {fr tg:Nat}:∀(f:Nat) (q:List (List Int)) (seen:List Bool),Hj n e fr q seen→q.length+eI seen<f→seen.getD fr false=true →
  (∀v,seen.getD v false=true→(∃l∈q,cP l=v)∨(v≠tg∧∀w,w<n→e v w=true→seen.getD w false=true))→(pn n e tg f q seen≠[]↔Reach n e fr tg)
 |0,_,_,_,h,_,_=>by omega
 |f+1,[],seen,h,_,h2,h3=>by
  rw[pn];refine⟨fun h=>absurd rfl h,fun hr=>?_⟩;have cl:∀v,Reach n e fr v→seen.getD v false=true:=fun v hv=>by
   induction hv with
   |here=>exact h2
   |step _ hlt he ih =>
    rcases h3 _ ih with⟨l,hl,_⟩|⟨_,g⟩
    ·cases hl
    exact g _ hlt he
  rcases h3 _ (cl _ hr) with⟨l,hl,_⟩|⟨g,_⟩
  ·cases hl
  exact absurd rfl g
 |f+1,l::r,seen,h,hm,h2,h3=>by
  obtain⟨p1,p2,p3,p4,p5⟩:=h.ne l (by simp);rw[pn];split
  ·rename_i hl;exact⟨fun _=>hl▸h.sr _ p4,fun _=>p1⟩
  rename_i hl;obtain⟨g1,g2,⟨m,g3⟩,g4,g5,g6⟩:=sS h (l:=l) (by simp) n (Nat.le_refl _);generalize l7 n e l (cP l) (l::r) seen=s at *;obtain⟨q1,s1⟩:=s;simp only at *;subst g3;simp only[List.cons_append,List.tail_cons];refine uB f (r++m) s1 ⟨g1.len,fun x hx=>g1.ne x (by simp only[List.cons_append,List.mem_cons];exact .inr hx),g1.sr⟩ ?_ (g5 _ h2) fun v hv=>?_
  ·simp at g2 hm ⊢;omega
  have fin:(∃x∈l::r++m,cP x=v)→(∃x∈r++m,cP x=v)∨(v≠tg∧∀w,w<n→e v w=true→s1.getD w false=true):=fun ⟨x,hx,ex⟩=>by
   rcases List.mem_cons.mp (by simpa using hx:x∈l::(r++m)) with rfl|hx
   ·exact .inr ⟨fun hv=>hl (by rw[ex,hv]),fun w hw he=>g4 w hw (by rw[ex];exact he)⟩
   exact .inl ⟨x,hx,ex⟩
  rcases g6 v hv with hs|hs
  ·rcases h3 v hs with⟨x,hx,ex⟩|⟨q1,q2⟩
   ·exact fin ⟨x,by simp only[List.cons_append,List.mem_cons,List.mem_append];rcases List.mem_cons.mp hx with h|h;exact .inl h;exact .inr (.inl h),ex⟩
   exact .inr ⟨q1,fun w hw he=>g5 w (q2 w hw he)⟩
  exact fin hs
def jA (n fr:Nat):List Bool:=(List.replicate n false).set fr true
theorem uC {n:Nat} {e:Nat→Nat→Bool} {fr:Nat} (hf:fr<n):Hj n e fr [[(fr:Int)]] (jA n fr):=by
 have hlt:fr<(List.replicate n false).length:=by simpa using hf
 have hz:∀v,(List.replicate n false).getD v false=false:=fun v=>by
  rw[List.getD,List.getElem?_replicate];split<;>rfl
 refine⟨by simp[jA],fun l hl=>?_,fun v hv=>?_⟩
 ·simp only[List.mem_singleton]at hl;subst hl;have hu:=ku (List.replicate n false) fr (by rw[List.getD,List.getElem?_replicate,if_pos hf];rfl);have:=oC (List.replicate n false);rw[List.length_replicate]at this;refine⟨by simp,by simp,by simpa [cP]using hf,by rw[jA,hJ _ _ _ _ hlt,if_pos (by simp[cP])],by simp only[List.length_singleton,jA];omega⟩
 rw[jA,hJ _ _ _ _ hlt]at hv;split at hv
 ·rename_i h;rw[h];exact .here
 rw[hz]at hv;cases hv
theorem Hk {n:Nat} {e:Nat→Nat→Bool} {fr tg:Nat} (hf:fr<n):pn n e tg (n+2) [[(fr:Int)]] (jA n fr)≠[]↔Reach n e fr tg:=by
 have hlt:fr<(List.replicate n false).length:=by simpa using hf
 have hu:=ku (List.replicate n false) fr (by rw[List.getD,List.getElem?_replicate,if_pos hf];rfl);have:=oC (List.replicate n false);rw[List.length_replicate]at this;refine uB (n+2) _ _ (uC hf) ?_ (by rw[jA,hJ _ _ _ _ hlt,if_pos rfl]) fun v hv=>?_
 ·simp only[List.length_singleton,jA];omega
 rw[jA,hJ _ _ _ _ hlt]at hv;split at hv
 ·rename_i h;exact .inl ⟨_,List.mem_singleton.mpr rfl,by simp[cP,h]⟩
 rw[List.getD,List.getElem?_replicate]at hv;split at hv<;>cases hv
end Rf
end
section
namespace Rf
end Rf
namespace Pur
open Go.RowKit
attribute [local go_sem] ξ bN gv ca bz cI ji List.map bA aP get put tmpsOf eK mB kU ly conds ev cond_true cond_false Nat.beq Nat.ble Nat.add quiet eL cW dn wg List.append_eq List.nil_append List.cons_append eJ eh ei ek eo ep eu iB iq eR mE fK calm quiet.isCallK dd List.getElem?_cons_zero List.getElem?_cons_succ bV cX cellsOf List.all bP List.length_cons List.length_nil gV br List.drop List.take List.getD Option.getD_some Ab Ac yX Ad Ae Af iJ kL iK iL setAt List.set Nat.reduceAdd Nat.reduceMul cR bM refsOf bT b8 scalar dk fN cv dj a6 after freeze iV lR aZ eX gx gk gN fQ fR dY fS fT fW fX fY fZ ga gf gg gi gj dZ ea ec eS mF bytesOf bX eF aX bY fe bU cS dm still cx fM dO gR bZ gO List.isEmpty ed ef eg Int.reduceToNat Nat.mul_one Nat.reduceSub vj eG c8 eY dL look eZ strip guarded jw jO gU dC gQ dB kC fU fV Bool.or_false Bool.or_true Bool.and_true Bool.and_false Nat.blt gu gW gy dx idxOf iW ko mC gr a6 qY
open Rf
end Pur
end
section
namespace Rf
end Rf
namespace Pur
open Go.RowKit
attribute [local go_sem] ξ bN gv ca bz cI ji List.map bA aP get put tmpsOf eK mB kU ly conds ev cond_true cond_false Nat.beq Nat.ble Nat.add quiet eL cW dn wg List.append_eq List.nil_append List.cons_append eJ eh ei ek eo ep eu iB iq eR mE fK calm quiet.isCallK dd List.getElem?_cons_zero List.getElem?_cons_succ bV cX cellsOf List.all bP List.length_cons List.length_nil gV br List.drop List.take List.getD Option.getD_some Ab Ac yX Ad Ae Af iJ kL iK iL setAt List.set Nat.reduceAdd Nat.reduceMul cR bM refsOf bT b8 scalar dk fN cv dj a6 after freeze iV lR aZ eX gx gk gN fQ fR dY fS fT fW fX fY fZ ga gf gg gi gj dZ ea ec eS mF bytesOf bX eF aX bY fe bU cS dm still cx fM dO gR bZ gO List.isEmpty ed ef eg Int.reduceToNat Nat.mul_one Nat.reduceSub vj eG c8 eY dL look eZ strip guarded jw jO gU dC gQ dB kC fU fV Bool.or_false Bool.or_true Bool.and_true Bool.and_false Nat.blt gu gW gy dx idxOf iW ko mC gr a6 qY
open Rf
theorem pd.mono {C:Ctx} {g:FuncId} {al:List AV} {μ:AM} {c:List PanicEntry} {P Q:AM→Prop} (h:pd C g al μ c P) (hq:∀μ,P μ→Q μ):pd C g al μ c Q :=
 ⟨h.1,fun w0 S γ w vs hW hp=>(h.2 w0 S γ w vs hW hp).mono fun e w' ⟨S',γ',μ',h1,h2,h3,h4⟩=>⟨S',γ',μ',h1,h2,h3,hq _ h4⟩⟩
def aY:eN:=⟨[.pv (.int .i64 0),.pv .nilsl,.pv (.int .i64 0),.pv (.int .i64 0),.pv .nilsl],0,5,25,false⟩
theorem l8 (ay:List Nat) (ps:List PV):(ps.map AV.pv).map (dx ay 3)=ps.map .pv:=by
 rw[List.map_map];exact List.map_congr_left fun p _=>rfl
theorem qp (l:List Tree):(l.map fun _=>5).sum=l.length*5:=by induction l<;>simp_all<;>omega
theorem rf (l:List aJ):(l.map fun _=>3).sum=l.length*3:=by induction l<;>simp_all<;>omega
end Pur
end
section
namespace Rf
def db (p:List Nat):Nat:=p.getLastD 0
def Dy (n:Nat) (e:Nat→Nat→Bool) (p:List Nat):List (List Nat):=((List.range n).filter fun u=>e (db p) u&& !decide (u∈p)).map fun u=>p++[u]
def gP (n:Nat) (e:Nat→Nat→Bool) (ps:List (List Nat)):List (List Nat):=ps.flatMap (Dy n e)
def lvl (n:Nat) (e:Nat→Nat→Bool) (a:Nat):Nat→List (List Nat)
 |0=>[[a]]
 |k+1=>gP n e (lvl n e a k)
inductive SP (n:Nat) (e:Nat→Nat→Bool) (a:Nat):List Nat→Prop
 |one:SP n e a [a]
 |snoc {p:List Nat} {u:Nat}:SP n e a p→u<n→e (db p) u=true→u ∉ p→SP n e a (p++[u])
theorem oD (p:List Nat) (u:Nat):db (p++[u])=u:=by simp[db]
theorem sT {n:Nat} {e:Nat→Nat→Bool} {p q:List Nat}:q∈Dy n e p↔∃u,u<n∧e (db p) u=true∧u ∉ p∧q=p++[u]:=by
 simp only[Dy,List.mem_map,List.mem_filter,List.mem_range,Bool.and_eq_true,Bool.not_eq_true',decide_eq_false_iff_not];constructor
 ·rintro⟨u,⟨h1,h2,h3⟩,rfl⟩;exact⟨u,h1,h2,h3,rfl⟩
 rintro⟨u,h1,h2,h3,rfl⟩;exact⟨u,⟨h1,h2,h3⟩,rfl⟩
theorem zB {n:Nat} {e:Nat→Nat→Bool} {a:Nat}:∀(k:Nat) (p:List Nat),p∈lvl n e a k→SP n e a p
 |0,p,h=>by simp[lvl]at h;subst h;exact .one
 |k+1,p,h=>by
  rw[lvl,gP,List.mem_flatMap]at h;obtain⟨q,hq,hp⟩:=h;obtain⟨u,h1,h2,h3,rfl⟩:=sT.mp hp;exact .snoc (zB k q hq) h1 h2 h3
theorem Dz {n:Nat} {e:Nat→Nat→Bool} {a:Nat} {p:List Nat} (h:SP n e a p):0<p.length∧p∈lvl n e a (p.length-1):=by
 induction h with
 |one=>simp[lvl]
 |@snoc p u h h1 h2 h3 ih =>
  obtain⟨i1,i2⟩:=ih;refine⟨by simp,?_⟩;obtain⟨k,hk⟩:∃k,p.length=k+1:=⟨p.length-1,by omega⟩
  rw[hk]at i2;rw[List.length_append,hk];show _∈lvl n e a (k+1);rw[lvl,gP,List.mem_flatMap];exact⟨p,i2,sT.mpr ⟨u,h1,h2,h3,rfl⟩⟩
theorem xH {n:Nat} {e:Nat→Nat→Bool} {a:Nat} (ha:a<n) {p:List Nat} (h:SP n e a p):p.Nodup∧∀x∈p,x<n:=by
 induction h with
 |one=>simp[ha]
 |@snoc p u h h1 h2 h3 ih =>
  refine⟨?_,fun x hx=>?_⟩
  ·rw[List.nodup_append];refine⟨ih.1,by simp,fun x hx y hy=>?_⟩;simp at hy;subst hy;intro hxy;subst hxy;exact h3 hx
  rcases List.mem_append.mp hx with hx|hx
  ·exact ih.2 x hx
  simp at hx;omega
theorem zC:∀(n:Nat) (l:List Nat),l.Nodup→(∀x∈l,x<n)→l.length≤n
 |0,[],_,_=>by simp
 |0,x::l,_,h=>by have:=h x (by simp);omega
 |n+1,l,hn,h=>by
  have h1:=zC n (l.erase n) (hn.erase n) fun x hx=>by
   have:=(List.Nodup.mem_erase_iff hn).mp hx;have:=h x this.2;omega
  have h2:=List.length_erase (a:=n) (l:=l);split at h2<;>omega
theorem Fg {n:Nat} {e:Nat→Nat→Bool} {a:Nat} {p:List Nat} (h:SP n e a p):∀c∈p,∃q,SP n e a q∧db q=c:=by
 induction h with
 |one=>intro c hc;simp at hc;subst hc;exact⟨_,.one,rfl⟩
 |@snoc p u h h1 h2 h3 ih =>
  intro c hc;rcases List.mem_append.mp hc with hc|hc
  ·exact ih c hc
  simp at hc;subst hc;exact⟨_,.snoc h h1 h2 h3,oD _ _⟩
theorem DA {n:Nat} {e:Nat→Nat→Bool} {a:Nat} {p:List Nat} (h:SP n e a p):Reach n e a (db p):=by
 induction h with
 |one=>exact .here
 |@snoc p u h h1 h2 h3 ih=>rw[oD];exact .step ih h1 h2
theorem DB {n:Nat} {e:Nat→Nat→Bool} {a v:Nat} (h:Reach n e a v):∃p,SP n e a p∧db p=v:=by
 induction h with
 |here=>exact⟨_,.one,rfl⟩
 |@step b c h h1 h2 ih =>
  obtain⟨p,hp,rfl⟩:=ih;by_cases hc:c∈p
  ·exact Fg hp c hc
  exact⟨_,.snoc hp h1 h2 hc,oD _ _⟩
def jB (n:Nat) (e:Nat→Nat→Bool) (v:Nat):Nat→List (List Nat)→Option (List Nat)
 |0,_=>none
 |f+1,ps=>match ps.find? (fun p=>decide (db p=v)) with
  |some p=>some p
  |none=>jB n e v f (gP n e ps)
theorem uD {n:Nat} {e:Nat→Nat→Bool} {a v:Nat}:∀(f k:Nat),(jB n e v f (lvl n e a k)).isSome=true↔∃j p,k≤j∧j<k+f∧p∈lvl n e a j∧db p=v
 |0,k=>by
  simp only[jB,Option.isSome_none,Bool.false_eq_true,false_iff];rintro⟨j,p,h1,h2,-⟩;omega
 |f+1,k=>by
  rw[jB];cases hf:(lvl n e a k).find? (fun p=>decide (db p=v)) with
  |some p =>
   simp only[Option.isSome_some,true_iff];exact⟨k,p,Nat.le_refl _,by omega,List.mem_of_find?_eq_some hf,by simpa using List.find?_some hf⟩
  |none =>
   simp only;have ih:=uD (n:=n) (e:=e) (a:=a) (v:=v) f (k+1);rw[lvl]at ih;rw[ih];constructor
   ·rintro⟨j,p,h1,h2,h3⟩;exact⟨j,p,by omega,by omega,h3⟩
   rintro⟨j,p,h1,h2,h3,h4⟩;refine⟨j,p,?_,by omega,h3,h4⟩;rcases Nat.lt_or_ge k j with h|h
   ·exact h
   obtain rfl:j=k:=by omega
   have:=List.find?_eq_none.mp hf p h3;simp[h4]at this
theorem qM {n:Nat} {e:Nat→Nat→Bool} {a v:Nat} (ha:a<n):(jB n e v n [[a]]).isSome=true↔Reach n e a v:=by
 rw[show[[a]]=lvl n e a 0 from rfl,uD];constructor
 ·rintro⟨j,p,-,-,h3,rfl⟩;exact DA (zB j p h3)
 intro h;obtain⟨p,hp,rfl⟩:=DB h;obtain⟨h1,h2⟩:=Dz hp;obtain⟨h3,h4⟩:=xH ha hp;have:=zC n p h3 h4;exact⟨_,p,Nat.zero_le _,by omega,h2,rfl⟩
end Rf
end
section
namespace Pur
open Go.RowKit
attribute [local go_sem] ξ bN gv ca bz cI ji List.map bA aP get put tmpsOf eK mB kU ly conds ev cond_true cond_false Nat.beq Nat.ble Nat.add quiet eL cW dn wg List.append_eq List.nil_append List.cons_append eJ eh ei ek eo ep eu iB iq eR mE fK calm quiet.isCallK dd List.getElem?_cons_zero List.getElem?_cons_succ bV cX cellsOf List.all bP List.length_cons List.length_nil gV br List.drop List.take List.getD Option.getD_some Ab Ac yX Ad Ae Af iJ kL iK iL setAt List.set Nat.reduceAdd Nat.reduceMul cR bM refsOf bT b8 scalar dk fN cv dj a6 after freeze iV lR aZ eX gx gk gN fQ fR dY fS fT fW fX fY fZ ga gf gg gi gj dZ ea ec eS mF bytesOf bX eF aX bY fe bU cS dm still cx fM dO gR bZ gO List.isEmpty ed ef eg Int.reduceToNat Nat.mul_one Nat.reduceSub vj eG c8 eY dL look eZ strip guarded jw jO gU dC gQ dB kC fU fV Bool.or_false Bool.or_true Bool.and_true Bool.and_false Nat.blt gu gW gy dx idxOf iW ko mC gr a6 qY
section
open Rf
theorem Gw:Tryz.prog.cellsOf 3=1:=by kernel_rfl
theorem xI {n B:Nat} {l:List PV} (h:Typed Tryz.prog B n 3 l):∃x,l=[.int .i64 x]:=by
 obtain⟨x,rfl,hw⟩:=Hd h Tryz.underlying3;exact⟨x,rfl⟩
end
section
open Rf
def HY:av:=(⟨_,by conv=>(lhs;reduce;try simp only[G4,Int.cast_ofNat_Int,Int.reduceNegSucc,UInt8.reduceOfNat])⟩:{x // codeOf Tryz.prog 39 (fun _=>false)=some x}).1
theorem Je:bo Tryz.prog 39 (fun _=>false)=some (HY,[.t 2],112,true):=by kernel_rfl
def qN (t:Tree):Bool:=t.steps.all bL&&gT t.kind t.cell t.pos t.kids.length
theorem Fh (t:Tree) (hw:wt t≤1000000000):aq ctx 39 [aE t] (.bool (qN t)):=by
 obtain⟨kd,s,c,a,l⟩:=t;rw[cz]at hw;have hl:=j3 l;unfold qN;simp only[Tree.kind,Tree.steps,Tree.cell,Tree.pos,Tree.kids];refine an (C:=ctx) (Fn.of Je rfl) rfl ?_;unfold HY;repeat' (first|((with_reducible first|show az _|show aB _);simp[vb]<;>omega)|exact(rfl:some _=_)|((fail_if_success refine aK ?_);refine bG ?_;(repeat1' dsimp only[HY,aE,Tree.kind,Tree.steps,Tree.cell,Tree.pos,Tree.kids,aj,aw,go_sem]);first|refine aL ?_ ?_ rfl ?_|apply aM|apply aN|(refine aO (fun hc=>?_) fun hc=>?_<;>first|(cases hc;done)|(exfalso;simp at hc<;>omega)|(try simp only[bn]at hc;try contradiction))|skip))
 refine a7 s.length (fun k=>(s.take k).all bL=true) (fun k=>[(1,.ptr 0 0 0),(7,.pv (aj s)),(8,.pv (.int .i64 s.length)),(9,.pv (.int .i64 k))]) (fun _=>[ax (.node kd s c a l)]) rfl (by (repeat' (first|exact trivial|refine And.intro (by first|rfl|(simp[get,Nat.beq]<;>omega)|(dsimp only[get];congr 1<;>first|rfl|omega|(simp<;>omega))) ?_))) ⟨[],rfl⟩ (fun _=>⟨Nat.zero_le _,rfl,rfl⟩) fun k hk hP=>?_
 by_cases hlt:k<s.length
 ·have e:=bQ bI s k zs hlt;have hle:=de s;have h1:=eB bL s k zs hlt;have h2:=lZ bL s k zs hlt;rw[h1,hP,Bool.true_and];clear h1;generalize s.getD k zs=x at *;repeat' (first|((with_reducible show az _);first|exact True.intro|(simp only[vb,lb,e,hle,hlt,af];and_intros<;>first|omega|(simp<;>omega)))|((with_reducible show aB _);first|exact True.intro|((try dsimp only[go_sem]);(simp[vb,e,hle,hlt,af]<;>omega)))|exact(rfl:some _=_)|((fail_if_success refine aK ?_);refine bw [ξ 12 (.agg [.int .i64 x.kind,.int .i64 x.index,.int .i64 x.cell])] ?_;(repeat1' dsimp only[HY,ax,Tree.kind,Tree.steps,Tree.cell,Tree.pos,Tree.kids,aj,aw,go_sem]);first|refine aL ?_ ?_ rfl ?_|apply aM|apply aN|(refine aO (fun hc=>?_) fun hc=>?_<;>first|(cases hc;done)|(exfalso;(simp at hc<;>omega))|(try simp only[bn]at hc;try contradiction))|skip))
  all_goals first
   |(rw[h2 (by
     cases h:bL x with
     |false=>rfl
     |true =>
      exfalso;simp only[bL,aC,Bool.and_eq_true,decide_eq_true_eq]at h;split at h<;>omega),Bool.false_and];done)
   |(
    refine⟨hlt,?_,by (repeat' (first|exact trivial|refine And.intro (by first|rfl|(simp[get,Nat.beq]<;>omega)|(dsimp only[get];congr 1<;>first|rfl|omega|(simp<;>omega))) ?_)),_,rfl⟩;simp only[bL,aC,Bool.and_eq_true,decide_eq_true_eq];split<;>omega)
 obtain rfl:k=s.length:=by omega
 rw[List.take_length]at hP;repeat' (first|((with_reducible show az _);first|exact True.intro|(simp only[vb,lb,hlt];and_intros<;>first|omega|(simp<;>omega)))|((with_reducible show aB _);first|exact True.intro|((try dsimp only[go_sem]);(simp[vb,hlt]<;>omega)))|exact(rfl:some _=_)|((fail_if_success refine aK ?_);refine bG ?_;(repeat1' dsimp only[HY,ax,Tree.kind,Tree.steps,Tree.cell,Tree.pos,Tree.kids,aj,aw,go_sem]);first|refine aL ?_ ?_ rfl ?_|apply aM|apply aN|(refine aO (fun hc=>?_) fun hc=>?_<;>first|(cases hc;done)|(exfalso;(simp at hc<;>omega))|(try simp only[bn]at hc;try contradiction))|skip))
 all_goals
  refine congrArg some (congrArg PV.bool ?_);rw[hP,Bool.true_and,Bool.eq_iff_iff];simp only[kn,gT,aC];(repeat' split)<;>simp only[Bool.and_eq_true,decide_eq_true_eq,beq_iff_eq,Bool.false_eq_true]<;>omega
def HO:av:=(⟨_,by conv=>(lhs;cbv;try simp only[G4,Int.cast_ofNat_Int,Int.reduceNegSucc,UInt8.reduceOfNat])⟩:{x // codeOf Tryz.prog 42 (fun _=>false)=some x}).1
theorem HZ:bo Tryz.prog 42 (fun _=>false)=some (HO,[.t 4],26,true):=by kernel_rfl
theorem BL (a b:List aJ) (ha:a.length≤1000000000) (hb:b.length≤1000000000):aq ctx 42 [aj a,aj b] (.bool (decide (a=b))):=by
 generalize hr:decide (a=b)=r;have f1:=de a;have f2:=de b;refine an (C:=ctx) (Fn.of HZ rfl) rfl ?_;unfold HO;repeat' (first|((with_reducible first|show az _|show aB _);simp[vb]<;>omega)|exact(rfl:some _=_)|((fail_if_success refine aK ?_);refine bG ?_;(repeat1' dsimp only[HO,aj,go_sem]);first|refine aL ?_ ?_ rfl ?_|apply aM|apply aN|(refine aO (fun hc=>?_) fun hc=>?_<;>first|(cases hc;done)|(exfalso;simp at hc<;>omega)|(try simp only[bn]at hc;try contradiction))|skip))
 ·rw[←hr];have:a≠b:=by rintro rfl;exact hc rfl
  simp[this]
 have hn:a.length=b.length:=by omega
 refine a7 a.length (fun k=>a.take k=b.take k) (fun k=>[(13,.pv (.int .i64 k)),(12,.pv (.int .i64 a.length)),(0,.pv (aj a)),(1,.pv (aj b))]) (fun _=>[]) rfl (by (repeat' (first|exact trivial|refine And.intro (by first|rfl|(simp[get,Nat.beq]<;>omega)|(dsimp only[get];congr 1<;>first|rfl|omega|(simp<;>omega))) ?_))) ⟨[],rfl⟩ (fun k=>⟨Nat.zero_le _,rfl,rfl⟩) fun k hk hP=>?_
 by_cases hlt:k<a.length
 ·have s1:=aH a k zs hlt;have s2:=aH b k zs (by omega);have hne:a.getD k zs≠b.getD k zs→a≠b:=fun h1 h2=>h1 (by rw[h2])
  have e1:=bQ bI a k zs hlt;have e2:=bQ bI b k zs (by omega);generalize a.getD k zs=x at *;generalize b.getD k zs=y at *;repeat' (first|((with_reducible first|show az _|show aB _);simp[vb,e1,e2,f1,f2,hlt,hn,af]<;>omega)|exact(rfl:some _=_)|((fail_if_success refine aK ?_);refine bw [ξ 19 (.agg [.int .i64 x.kind,.int .i64 x.index,.int .i64 x.cell]),ξ 23 (.agg [.int .i64 y.kind,.int .i64 y.index,.int .i64 y.cell])] ?_;(repeat1' dsimp only[HO,aj,go_sem]);first|refine aL ?_ ?_ rfl ?_|apply aM|apply aN|(refine aO (fun hc=>?_) fun hc=>?_<;>first|(cases hc;done)|(exfalso;simp[e1,e2,f1,f2,hlt,hn,af]at hc<;>omega)|(try simp only[bn]at hc;try contradiction))|skip))
  ·rw[←hr];have:=hne (by rintro rfl;simp at hc);simp[this]
  refine⟨hlt,?_,by (repeat' (first|exact trivial|refine And.intro (by first|rfl|(simp[get,Nat.beq]<;>omega)|(dsimp only[get];congr 1<;>first|rfl|omega|(simp<;>omega))) ?_)),[],rfl⟩;rw[s1,s2,hP,show x=y from by cases x;cases y;simp_all]
 have hk2:k=a.length:=by omega
 subst hk2;rw[List.take_length,hn,List.take_length]at hP;repeat' (first|((with_reducible first|show az _|show aB _);simp[vb,hlt]<;>omega)|exact(rfl:some _=_)|((fail_if_success refine aK ?_);refine bG ?_;(repeat1' dsimp only[HO,aj,go_sem]);first|refine aL ?_ ?_ rfl ?_|apply aM|apply aN|(refine aO (fun hc=>?_) fun hc=>?_<;>first|(cases hc;done)|(exfalso;simp[hlt]at hc<;>omega)|(try simp only[bn]at hc;try contradiction))|skip))
 rw[←hr];simp[hP]
def HP:av:=(⟨_,by conv=>(lhs;reduce;try simp only[G4,Int.cast_ofNat_Int,Int.reduceNegSucc,UInt8.reduceOfNat])⟩:{x // codeOf Tryz.prog 43 (fun _=>false)=some x}).1
theorem H0:bo Tryz.prog 43 (fun _=>false)=some (HP,[.t 6],32,true):=by kernel_rfl
theorem BM (l l2:List Tree) (hl:l.length≤1000000000) (hl2:l2.length≤1000000000) (h:∀t∈l,∀u∈l2,∀r:Bool,(r=true↔t=u)→aq ctx 19 [aE t,aE u] (.bool r)) :
  ∀r:Bool,(r=true↔l=l2)→aq ctx 43 [aw l,aw l2,.val (.func (.func 19) #[] #[])] (.bool r):=by
 intro r hr;have g1:=fa l;have g2:=fa l2;refine an (C:=ctx) (Fn.of H0 rfl) rfl ?_;unfold HP;repeat' (first|((with_reducible first|show az _|show aB _);simp[vb]<;>omega)|exact(rfl:some _=_)|((fail_if_success refine aK ?_);refine bG ?_;(repeat1' dsimp only[HP,aw,go_sem]);first|refine aL ?_ ?_ rfl ?_|apply aM|apply aN|(refine aO (fun hc=>?_) fun hc=>?_<;>first|(cases hc;done)|(exfalso;simp at hc<;>omega)|(try simp only[bn]at hc;try contradiction))|skip))
 ·cases r with
  |false=>rfl
  |true=>rw[hr.mp rfl]at hc;exact absurd rfl hc
 have hn:l.length=l2.length:=by omega
 refine a7 l.length (fun k=>l.take k=l2.take k) (fun k=>[(0,.pv (aw l)),(1,.pv (aw l2)),(2,.pv (.val (.func (.func 19) #[] #[]))),(15,.pv (aw l)),(16,.pv (.int .i64 l.length)),(17,.pv (.int .i64 k))]) (fun _=>[]) rfl (by (repeat' (first|exact trivial|refine And.intro (by first|rfl|(simp[get,Nat.beq]<;>omega)|(dsimp only[get];congr 1<;>first|rfl|omega|(simp<;>omega))) ?_))) ⟨[],rfl⟩ (fun k=>⟨Nat.zero_le _,rfl,rfl⟩) fun k hk hP=>?_
 by_cases hlt:k<l.length
 ·have s1:=aH l k zt hlt;have s2:=aH l2 k zt (by omega);have hne:l.getD k zt≠l2.getD k zt→l≠l2:=fun h1 h2=>h1 (by rw[h2])
  have e1:=gY l k hlt;have e2:=gY l2 k (by omega);obtain⟨q2,hq2⟩:=ux (l.getD k zt=l2.getD k zt);have hx:=h _ (aQ (d:=zt) hlt) _ (aQ (l:=l2) (d:=zt) (k:=k) (by omega)) q2 hq2;clear h;generalize l.getD k zt=x at *;generalize l2.getD k zt=y at *;obtain⟨xk,xs,xc,xa,xl⟩:=x;obtain⟨yk,ys,yc,ya,yl⟩:=y;simp only[aE,Tree.kind,Tree.steps,Tree.cell,Tree.pos,Tree.kids]at e1 e2 hx;repeat' (first|((with_reducible first|show az _|show aB _);(try dsimp only[go_sem]);first|(simp[vb,e1,e2,g1,g2,hlt,hn,hx,aj,aw]<;>omega)|(simp only[vb,and_true,true_implies];(repeat' (first|(with_reducible assumption)|(with_reducible apply And.intro)|intro _|((fail_if_success (with_reducible show(_:Int)≤_));assumption)))<;>first|omega|(simp only[ab,e1,e2,g1,g2,hlt,hn,hx,aj,aw];done)|(simp[e1,e2,g1,g2,hlt,hn,hx,aj,aw]<;>omega)))|exact(rfl:some _=_)|((fail_if_success refine aK ?_);refine aV [(19,fun _=>some (.bool q2))] [ξ 21 (.agg [.int .i64 xk,aj xs,.int .i64 xc,.int .i64 xa,aw xl]),ξ 25 (.agg [.int .i64 yk,aj ys,.int .i64 yc,.int .i64 ya,aw yl])] ?_;(repeat1' dsimp only[HP,aw,aj,go_sem]);first|refine aL ?_ ?_ rfl ?_|apply aM|apply aN|(refine aO (fun hc=>?_) fun hc=>?_<;>first|(cases hc;done)|(exfalso;simp[e1,e2,g1,g2,hlt,hn,hx,aj,aw]at hc<;>omega)|(try simp only[bn]at hc;try contradiction))|skip))
  all_goals first
   |(
    refine⟨hlt,?_,by (repeat' (first|exact trivial|refine And.intro (by first|rfl|(simp[get,Nat.beq]<;>omega)|(dsimp only[get];congr 1<;>first|rfl|omega|(simp<;>omega))) ?_)),_,rfl⟩;rw[s1,s2,hP,hq2.mp hc];done)
   |(
    subst hc;have hxy:=hne fun h=>by have:=hq2.mpr h;cases this
    cases r with
    |false=>rfl
    |true=>exact absurd (hr.mp rfl) hxy)
 have hk2:k=l.length:=by omega
 subst hk2;rw[List.take_length,hn,List.take_length]at hP;repeat' (first|((with_reducible first|show az _|show aB _);simp[vb,hlt]<;>omega)|exact(rfl:some _=_)|((fail_if_success refine aK ?_);refine bG ?_;(repeat1' dsimp only[HP,aw,go_sem]);first|refine aL ?_ ?_ rfl ?_|apply aM|apply aN|(refine aO (fun hc=>?_) fun hc=>?_<;>first|(cases hc;done)|(exfalso;simp[hlt]at hc<;>omega)|(try simp only[bn]at hc;try contradiction))|skip))
 rw[hr.mpr hP]
def IK:av:=(⟨_,by conv=>(lhs;reduce;try simp only[G4,Int.cast_ofNat_Int,Int.reduceNegSucc,UInt8.reduceOfNat])⟩:{x // codeOf Tryz.prog 19 (fun _=>false)=some x}).1
theorem H2:bo Tryz.prog 19 (fun _=>false)=some (IK,[.t 4],38,true):=by kernel_rfl
theorem Fi:∀(t u:Tree),wt t≤1000000000→wt u≤1000000000→∀r:Bool,(r=true↔t=u)→aq ctx 19 [aE t,aE u] (.bool r):=by
 refine Tree.ind fun kd s c a l ih u hw hu r hr=>?_
 obtain⟨kd2,s2,c2,a2,l2⟩:=u;rw[cz]at hw hu;have hl:=j3 l;have hl2:=j3 l2;have hse:=BL s s2 (by omega) (by omega);obtain⟨qk,hqk⟩:=ux (l=l2);have hke:=BM l l2 (by omega) (by omega) (fun t ht u hu r hr=>ih t ht u (by have:=lY ht;omega) (by have:=lY hu;omega) r hr) qk hqk;generalize hq:decide (s=s2)=q at hse;refine an (C:=ctx) (Fn.of H2 rfl) rfl ?_;unfold IK;repeat' (first|((with_reducible show az _);first|exact True.intro|(simp only[vb,lb,hse,hke,aj,aw];and_intros<;>first|omega|(simp<;>omega)))|((with_reducible show aB _);first|exact True.intro|((try dsimp only[go_sem]);(simp only[vb,and_true,true_implies];(repeat' (first|(with_reducible assumption)|(with_reducible apply And.intro)|intro _|((fail_if_success (with_reducible show(_:Int)≤_));assumption)))<;>first|omega|(simp only[ab,hse,hke,aj,aw];done))))|exact(rfl:some _=_)|((fail_if_success refine aK ?_);refine du [(42,fun _=>some (.bool q)),(43,fun _=>some (.bool qk))] ?_;(repeat1' dsimp only[IK,aE,ax,Tree.kind,Tree.steps,Tree.cell,Tree.pos,Tree.kids,aj,aw,go_sem]);first|refine aL ?_ ?_ rfl ?_|apply aM|apply aN|(refine aO (fun hc=>?_) fun hc=>?_<;>first|(cases hc;done)|(try simp only[bn]at hc;try contradiction))|skip))
 refine congrArg some (congrArg PV.bool ?_);rw[Bool.eq_iff_iff,hr];simp only[kn,Bool.and_eq_true,beq_iff_eq,hqk,←hq,decide_eq_true_eq,Tree.node.injEq];constructor
 ·rintro⟨⟨⟨⟨rfl,rfl⟩,rfl⟩,rfl⟩,rfl⟩;exact⟨rfl,rfl,rfl,rfl,rfl⟩
 rintro⟨rfl,rfl,rfl,rfl,rfl⟩;exact⟨⟨⟨⟨rfl,rfl⟩,rfl⟩,rfl⟩,rfl⟩
end
section
open Rf
def JN:av:=(⟨_,by conv=>(lhs;reduce;try simp only[G4,Int.cast_ofNat_Int,Int.reduceNegSucc,UInt8.reduceOfNat])⟩:{x // codeOf Tryz.prog 11 (fun _=>false)=some x}).1
theorem Jf:bo Tryz.prog 11 (fun _=>false)=some (JN,[.t 0],93,true):=by kernel_rfl
def H3:av:=(⟨_,by conv=>(lhs;reduce;try simp only[G4,Int.cast_ofNat_Int,Int.reduceNegSucc,UInt8.reduceOfNat])⟩:{x // codeOf Tryz.prog 22 (fun _=>false)=some x}).1
theorem Fj:bo Tryz.prog 22 (fun _=>false)=some (H3,[.t 4],21,true):=by kernel_rfl
def c24:av:=(⟨_,by conv=>(lhs;reduce;try simp only[G4,Int.cast_ofNat_Int,Int.reduceNegSucc,UInt8.reduceOfNat])⟩:{x // codeOf Tryz.prog 24 (fun _=>false)=some x}).1
theorem Jg:bo Tryz.prog 24 (fun _=>false)=some (c24,[.cell 4 5 true,.t 5],38,true):=by kernel_rfl
def JO:av:=(⟨_,by conv=>(lhs;reduce;try simp only[G4,Int.cast_ofNat_Int,Int.reduceNegSucc,UInt8.reduceOfNat])⟩:{x // codeOf Tryz.prog 36 (fun _=>false)=some x}).1
theorem Jh:bo Tryz.prog 36 (fun _=>false)=some (JO,[.cell 0 4 true],18,true):=by kernel_rfl
def c46:av:=(⟨_,by conv=>(lhs;reduce;try simp only[G4,Int.cast_ofNat_Int,Int.reduceNegSucc,UInt8.reduceOfNat])⟩:{x // codeOf Tryz.prog 46 (fun _=>false)=some x}).1
theorem H4:bo Tryz.prog 46 (fun _=>false)=some (c46,[.t 2],52,true):=by kernel_rfl
def qq:av:=(⟨_,by conv=>(lhs;reduce;try simp only[G4,Int.cast_ofNat_Int,Int.reduceNegSucc,UInt8.reduceOfNat])⟩:{x // codeOf Tryz.prog 47 (fun _=>false)=some x}).1
theorem Ji:bo Tryz.prog 47 (fun _=>false)=some (qq,[.t 4],144,true):=by kernel_rfl
def c49:av:=(⟨_,by conv=>(lhs;reduce;try simp only[G4,Int.cast_ofNat_Int,Int.reduceNegSucc,UInt8.reduceOfNat])⟩:{x // codeOf Tryz.prog 49 (fun _=>false)=some x}).1
theorem Jj:bo Tryz.prog 49 (fun _=>false)=some (c49,[.cell 4 5 true,.t 5],69,true):=by kernel_rfl
def IL:av:=(⟨_,by conv=>(lhs;reduce;try simp only[G4,Int.cast_ofNat_Int,Int.reduceNegSucc,UInt8.reduceOfNat])⟩:{x // codeOf Tryz.prog 71 (fun _=>false)=some x}).1
theorem Hl:bo Tryz.prog 71 (fun _=>false)=some (IL,[.t 4],13,true):=by kernel_rfl
def c72:av:=(⟨_,by conv=>(lhs;reduce;try simp only[G4,Int.cast_ofNat_Int,Int.reduceNegSucc,UInt8.reduceOfNat])⟩:{x // codeOf Tryz.prog 72 (fun _=>false)=some x}).1
theorem H5:bo Tryz.prog 72 (fun _=>false)=some (c72,[.t 2],5,true):=by kernel_rfl
def IM:av:=(⟨_,by conv=>(lhs;reduce;try simp only[G4,Int.cast_ofNat_Int,Int.reduceNegSucc,UInt8.reduceOfNat])⟩:{x // codeOf Tryz.prog 73 (fun _=>false)=some x}).1
theorem H6:bo Tryz.prog 73 (fun _=>false)=some (IM,[.t 6],17,true):=by kernel_rfl
def Gx:av:=(⟨_,by conv=>(lhs;reduce;try simp only[G4,Int.cast_ofNat_Int,Int.reduceNegSucc,UInt8.reduceOfNat])⟩:{x // codeOf Tryz.prog 74 (fun _=>false)=some x}).1
theorem Fk:bo Tryz.prog 74 (fun _=>false)=some (Gx,[.t 4],45,true):=by kernel_rfl
def c75:av:=(⟨_,by conv=>(lhs;reduce;try simp only[G4,Int.cast_ofNat_Int,Int.reduceNegSucc,UInt8.reduceOfNat])⟩:{x // codeOf Tryz.prog 75 (fun _=>false)=some x}).1
theorem H7:bo Tryz.prog 75 (fun _=>false)=some (c75,[.t 4],9,true):=by kernel_rfl
def c76:av:=(⟨_,by conv=>(lhs;reduce;try simp only[G4,Int.cast_ofNat_Int,Int.reduceNegSucc,UInt8.reduceOfNat])⟩:{x // codeOf Tryz.prog 76 (fun _=>false)=some x}).1
theorem H8:bo Tryz.prog 76 (fun _=>false)=some (c76,[.t 3],8,true):=by kernel_rfl
def H9:av:=(⟨_,by conv=>(lhs;reduce;try simp only[G4,Int.cast_ofNat_Int,Int.reduceNegSucc,UInt8.reduceOfNat])⟩:{x // codeOf Tryz.prog 77 (fun d=>Nat.beq d 5)=some x}).1
theorem Fl:bo Tryz.prog 77 (fun d=>Nat.beq d 5)=some (H9,[.t 2],8,true):=by kernel_rfl
def qt:av:=(⟨_,by conv=>(lhs;reduce;try simp only[G4,Int.cast_ofNat_Int,Int.reduceNegSucc,UInt8.reduceOfNat])⟩:{x // codeOf Tryz.prog 78 (fun _=>false)=some x}).1
theorem sU:bo Tryz.prog 78 (fun _=>false)=some (qt,[.t 4,.t 5],140,true):=by kernel_rfl
def IN:av:=(⟨_,by conv=>(lhs;reduce;try simp only[G4,Int.cast_ofNat_Int,Int.reduceNegSucc,UInt8.reduceOfNat])⟩:{x // codeOf Tryz.prog 79 (fun _=>false)=some x}).1
theorem Ia:bo Tryz.prog 79 (fun _=>false)=some (IN,[.cell 4 2 true],16,true):=by kernel_rfl
def HQ:av:=(⟨_,by conv=>(lhs;reduce;try simp only[G4,Int.cast_ofNat_Int,Int.reduceNegSucc,UInt8.reduceOfNat])⟩:{x // codeOf Tryz.prog 97 (fun _=>false)=some x}).1
theorem Ib:bo Tryz.prog 97 (fun _=>false)=some (HQ,[.t 2],33,true):=by kernel_rfl
def IP:av:=(⟨_,by conv=>(lhs;reduce;try simp only[G4,Int.cast_ofNat_Int,Int.reduceNegSucc,UInt8.reduceOfNat])⟩:{x // codeOf Tryz.prog 98 (fun _=>false)=some x}).1
theorem Ic:bo Tryz.prog 98 (fun _=>false)=some (IP,[.t 4],9,true):=by kernel_rfl
def IQ:av:=(⟨_,by conv=>(lhs;reduce;try simp only[G4,Int.cast_ofNat_Int,Int.reduceNegSucc,UInt8.reduceOfNat])⟩:{x // codeOf Tryz.prog 99 (fun _=>false)=some x}).1
theorem Ie:bo Tryz.prog 99 (fun _=>false)=some (IQ,[.t 3],9,true):=by kernel_rfl
def Fm:av:=(⟨_,by conv=>(lhs;reduce;try simp only[G4,Int.cast_ofNat_Int,Int.reduceNegSucc,UInt8.reduceOfNat])⟩:{x // codeOf Tryz.prog 101 (fun _=>false)=some x}).1
theorem Gy:bo Tryz.prog 101 (fun _=>false)=some (Fm,[.t 4],9,true):=by kernel_rfl
def Fp:av:=(⟨_,by conv=>(lhs;reduce;try simp only[G4,Int.cast_ofNat_Int,Int.reduceNegSucc,UInt8.reduceOfNat])⟩:{x // codeOf Tryz.prog 102 (fun _=>false)=some x}).1
theorem Gz:bo Tryz.prog 102 (fun _=>false)=some (Fp,[.t 2],8,true):=by kernel_rfl
def Fq:av:=(⟨_,by conv=>(lhs;reduce;try simp only[G4,Int.cast_ofNat_Int,Int.reduceNegSucc,UInt8.reduceOfNat])⟩:{x // codeOf Tryz.prog 103 (fun _=>false)=some x}).1
theorem GA:bo Tryz.prog 103 (fun _=>false)=some (Fq,[.t 4],9,true):=by kernel_rfl
def Fs:av:=(⟨_,by conv=>(lhs;reduce;try simp only[G4,Int.cast_ofNat_Int,Int.reduceNegSucc,UInt8.reduceOfNat])⟩:{x // codeOf Tryz.prog 104 (fun _=>false)=some x}).1
theorem GB:bo Tryz.prog 104 (fun _=>false)=some (Fs,[.t 2],9,true):=by kernel_rfl
def c105:av:=(⟨_,by conv=>(lhs;reduce;try simp only[G4,Int.cast_ofNat_Int,Int.reduceNegSucc,UInt8.reduceOfNat])⟩:{x // codeOf Tryz.prog 105 (fun _=>false)=some x}).1
theorem GC:bo Tryz.prog 105 (fun _=>false)=some (c105,[.t 4],19,true):=by kernel_rfl
def zD:av:=(⟨_,by conv=>(lhs;reduce;try simp only[G4,Int.cast_ofNat_Int,Int.reduceNegSucc,UInt8.reduceOfNat])⟩:{x // codeOf Tryz.prog 106 (fun _=>false)=some x}).1
theorem GD:bo Tryz.prog 106 (fun _=>false)=some (zD,[.t 6],51,true):=by kernel_rfl
def c107:av:=(⟨_,by conv=>(lhs;reduce;try simp only[G4,Int.cast_ofNat_Int,Int.reduceNegSucc,UInt8.reduceOfNat])⟩:{x // codeOf Tryz.prog 107 (fun _=>false)=some x}).1
theorem Ax:bo Tryz.prog 107 (fun _=>false)=some (c107,[.cell 6 2 true],27,true):=by kernel_rfl
def BN:av:=(⟨_,by conv=>(lhs;reduce;try simp only[G4,Int.cast_ofNat_Int,Int.reduceNegSucc,UInt8.reduceOfNat])⟩:{x // codeOf Tryz.prog 125 (fun _=>false)=some x}).1
theorem GG:bo Tryz.prog 125 (fun _=>false)=some (BN,[.t 4],19,true):=by kernel_rfl
def BO:av:=(⟨_,by conv=>(lhs;reduce;try simp only[G4,Int.cast_ofNat_Int,Int.reduceNegSucc,UInt8.reduceOfNat])⟩:{x // codeOf Tryz.prog 100 (fun _=>false)=some x}).1
theorem GH:bo Tryz.prog 100 (fun _=>false)=some (BO,[.t 4],51,true):=by kernel_rfl
def BP:av:=(⟨_,by conv=>(lhs;reduce;try simp only[G4,Int.cast_ofNat_Int,Int.reduceNegSucc,UInt8.reduceOfNat])⟩:{x // codeOf Tryz.prog 126 (fun _=>false)=some x}).1
theorem GI:bo Tryz.prog 126 (fun _=>false)=some (BP,[.t 4],19,true):=by kernel_rfl
def c127:av:=(⟨_,by conv=>(lhs;reduce;try simp only[G4,Int.cast_ofNat_Int,Int.reduceNegSucc,UInt8.reduceOfNat])⟩:{x // codeOf Tryz.prog 127 (fun _=>false)=some x}).1
theorem GJ:bo Tryz.prog 127 (fun _=>false)=some (c127,[.t 4],19,true):=by kernel_rfl
def Ft:av:=(⟨_,by conv=>(lhs;reduce;try simp only[G4,Int.cast_ofNat_Int,Int.reduceNegSucc,UInt8.reduceOfNat])⟩:{x // codeOf Tryz.prog 128 (fun _=>false)=some x}).1
theorem GK:bo Tryz.prog 128 (fun _=>false)=some (Ft,[.t 8],41,true):=by kernel_rfl
def xJ:av:=(⟨_,by conv=>(lhs;reduce;try simp only[G4,Int.cast_ofNat_Int,Int.reduceNegSucc,UInt8.reduceOfNat])⟩:{x // codeOf Tryz.prog 129 (fun _=>false)=some x}).1
theorem Ay:bo Tryz.prog 129 (fun _=>false)=some (xJ,[.cell 6 2 true],57,true):=by kernel_rfl
def c145:av:=(⟨_,by conv=>(lhs;reduce;try simp only[G4,Int.cast_ofNat_Int,Int.reduceNegSucc,UInt8.reduceOfNat])⟩:{x // codeOf Tryz.prog 145 (fun _=>false)=some x}).1
theorem GL:bo Tryz.prog 145 (fun _=>false)=some (c145,[.cell 4 2 true,.t 5],23,true):=by kernel_rfl
def c146:av:=(⟨_,by conv=>(lhs;reduce;try simp only[G4,Int.cast_ofNat_Int,Int.reduceNegSucc,UInt8.reduceOfNat])⟩:{x // codeOf Tryz.prog 146 (fun _=>false)=some x}).1
theorem Ig:bo Tryz.prog 146 (fun _=>false)=some (c146,[.t 6],67,true):=by kernel_rfl
def BQ:av:=(⟨_,by conv=>(lhs;reduce;try simp only[G4,Int.cast_ofNat_Int,Int.reduceNegSucc,UInt8.reduceOfNat])⟩:{x // codeOf Tryz.prog 147 (fun _=>false)=some x}).1
theorem GN:bo Tryz.prog 147 (fun _=>false)=some (BQ,[.t 4],19,true):=by kernel_rfl
def c148:av:=(⟨_,by conv=>(lhs;reduce;try simp only[G4,Int.cast_ofNat_Int,Int.reduceNegSucc,UInt8.reduceOfNat])⟩:{x // codeOf Tryz.prog 148 (fun _=>false)=some x}).1
theorem GO:bo Tryz.prog 148 (fun _=>false)=some (c148,[.t 3],8,true):=by kernel_rfl
def xK:av:=(⟨_,by conv=>(lhs;reduce;try simp only[G4,Int.cast_ofNat_Int,Int.reduceNegSucc,UInt8.reduceOfNat])⟩:{x // codeOf Tryz.prog 149 (fun _=>false)=some x}).1
theorem GP:bo Tryz.prog 149 (fun _=>false)=some (xK,[.t 8],52,true):=by kernel_rfl
def Fu:av:=(⟨_,by conv=>(lhs;reduce;try simp only[G4,Int.cast_ofNat_Int,Int.reduceNegSucc,UInt8.reduceOfNat])⟩:{x // codeOf Tryz.prog 150 (fun _=>false)=some x}).1
theorem GQ:bo Tryz.prog 150 (fun _=>false)=some (Fu,[.t 4],23,true):=by kernel_rfl
def Fv:av:=(⟨_,by conv=>(lhs;reduce;try simp only[G4,Int.cast_ofNat_Int,Int.reduceNegSucc,UInt8.reduceOfNat])⟩:{x // codeOf Tryz.prog 166 (fun _=>false)=some x}).1
theorem GR:bo Tryz.prog 166 (fun _=>false)=some (Fv,[.t 6],17,true):=by kernel_rfl
def c167:av:=(⟨_,by conv=>(lhs;reduce;try simp only[G4,Int.cast_ofNat_Int,Int.reduceNegSucc,UInt8.reduceOfNat])⟩:{x // codeOf Tryz.prog 167 (fun d=>Nat.beq d 5)=some x}).1
theorem GS:bo Tryz.prog 167 (fun d=>Nat.beq d 5)=some (c167,[.t 2],8,true):=by kernel_rfl
def Az:List (Nat×IJ):=[(19,⟨IK,[.t 4],38⟩),(42,⟨HO,[.t 4],26⟩),(43,⟨HP,[.t 6],32⟩),(11,⟨JN,[.t 0],93⟩),(22,⟨H3,[.t 4],21⟩),(24,⟨c24,[.cell 4 5 true,.t 5],38⟩),(36,⟨JO,[.cell 0 4 true],18⟩),(46,⟨c46,[.t 2],52⟩),(47,⟨qq,[.t 4],144⟩),(49,⟨c49,[.cell 4 5 true,.t 5],69⟩),(71,⟨IL,[.t 4],13⟩),(72,⟨c72,[.t 2],5⟩),(73,⟨IM,[.t 6],17⟩),(74,⟨Gx,[.t 4],45⟩),(75,⟨c75,[.t 4],9⟩),(76,⟨c76,[.t 3],8⟩),(77,⟨H9,[.t 2],8⟩),(78,⟨qt,[.t 4,.t 5],140⟩),(79,⟨IN,[.cell 4 2 true],16⟩),(97,⟨HQ,[.t 2],33⟩),(98,⟨IP,[.t 4],9⟩),(99,⟨IQ,[.t 3],9⟩),(101,⟨Fm,[.t 4],9⟩),(102,⟨Fp,[.t 2],8⟩),(103,⟨Fq,[.t 4],9⟩),(104,⟨Fs,[.t 2],9⟩),(105,⟨c105,[.t 4],19⟩),(106,⟨zD,[.t 6],51⟩),(107,⟨c107,[.cell 6 2 true],27⟩),(125,⟨BN,[.t 4],19⟩),(100,⟨BO,[.t 4],51⟩),(126,⟨BP,[.t 4],19⟩),(127,⟨c127,[.t 4],19⟩),(128,⟨Ft,[.t 8],41⟩),(129,⟨xJ,[.cell 6 2 true],57⟩),(145,⟨c145,[.cell 4 2 true,.t 5],23⟩),(146,⟨c146,[.t 6],67⟩),(147,⟨BQ,[.t 4],19⟩),(148,⟨c148,[.t 3],8⟩),(149,⟨xK,[.t 8],52⟩),(150,⟨Fu,[.t 4],23⟩),(166,⟨Fv,[.t 6],17⟩),(167,⟨c167,[.t 2],8⟩)]
theorem DC:∀p∈Az,∃own,bo Tryz.prog p.1 own=some (p.2.x,p.2.rs,p.2.n,true):=by
 simp only[Az,List.forall_mem_cons];exact⟨⟨_,H2⟩,⟨_,HZ⟩,⟨_,H0⟩,⟨_,Jf⟩,⟨_,Fj⟩,⟨_,Jg⟩,⟨_,Jh⟩,⟨_,H4⟩,⟨_,Ji⟩,⟨_,Jj⟩,⟨_,Hl⟩,⟨_,H5⟩,⟨_,H6⟩,⟨_,Fk⟩,⟨_,H7⟩,⟨_,H8⟩,⟨_,Fl⟩,⟨_,sU⟩,⟨_,Ia⟩,⟨_,Ib⟩,⟨_,Ic⟩,⟨_,Ie⟩,⟨_,Gy⟩,⟨_,Gz⟩,⟨_,GA⟩,⟨_,GB⟩,⟨_,GC⟩,⟨_,GD⟩,⟨_,Ax⟩,⟨_,GG⟩,⟨_,GH⟩,⟨_,GI⟩,⟨_,GJ⟩,⟨_,GK⟩,⟨_,Ay⟩,⟨_,GL⟩,⟨_,Ig⟩,⟨_,GN⟩,⟨_,GO⟩,⟨_,GP⟩,⟨_,GQ⟩,⟨_,GR⟩,⟨_,GS⟩,fun _ h=>by cases h⟩
end
section
open Rf
def c85:av:=(⟨_,by conv=>(lhs;reduce;try simp only[G4,Int.cast_ofNat_Int,Int.reduceNegSucc,UInt8.reduceOfNat])⟩:{x // codeOf Tryz.prog 85 (fun _=>false)=some x}).1
end
end Pur
end
section
namespace Rf
def jL {α:Type} (p:α→Bool) (l:List α):Int:=match l.findIdx? p with
 |some i=>i
 |none=> -1
theorem po {α:Type} (p:α→Bool) (l:List α) (k:Nat) (d:α) (hk:k<l.length) (h:(l.take k).all (fun x=>!p x)=true) (hp:p (l.getD k d)=true):jL p l=k:=by
 have:l.findIdx? p=some k:=by
  rw[List.findIdx?_eq_some_iff_getElem];refine⟨hk,by rw[List.getD,List.getElem?_eq_getElem hk]at hp;exact hp,fun j hj=>?_⟩;have:=List.all_eq_true.mp h (l[j]'(by omega)) (by
   rw[List.mem_take_iff_getElem];exact⟨j,by omega,rfl⟩)
  simpa using this
 rw[jL,this]
theorem nt {α:Type} (p:α→Bool) (l:List α) (h:l.all (fun x=>!p x)=true):jL p l= -1:=by
 have:l.findIdx? p=none:=by
  rw[List.findIdx?_eq_none_iff];intro x hx;have:=List.all_eq_true.mp h x hx;simpa using this
 rw[jL,this]
theorem rr {α:Type} (p:α→Bool) (l:List α):decide (0≤jL p l)=l.any p:=by
 cases h:l.findIdx? p with
 |none =>
  rw[List.findIdx?_eq_none_iff]at h;have:l.any p=false:=List.any_eq_false.mpr fun x hx=>by rw[h x hx];simp
  rw[this,jL,List.findIdx?_eq_none_iff.mpr h];rfl
 |some i =>
  rw[jL,h];rw[List.findIdx?_eq_some_iff_getElem]at h;obtain⟨h1,h2,-⟩:=h;rw[show l.any p=true from List.any_eq_true.mpr ⟨_,List.getElem_mem h1,h2⟩];simp
end Rf
namespace Pur
open Go.RowKit
attribute [local go_sem] ξ bN gv ca bz cI ji List.map bA aP get put tmpsOf eK mB kU ly conds ev cond_true cond_false Nat.beq Nat.ble Nat.add quiet eL cW dn wg List.append_eq List.nil_append List.cons_append eJ eh ei ek eo ep eu iB iq eR mE fK calm quiet.isCallK dd List.getElem?_cons_zero List.getElem?_cons_succ bV cX cellsOf List.all bP List.length_cons List.length_nil gV br List.drop List.take List.getD Option.getD_some Ab Ac yX Ad Ae Af iJ kL iK iL setAt List.set Nat.reduceAdd Nat.reduceMul cR bM refsOf bT b8 scalar dk fN cv dj a6 after freeze iV lR aZ eX gx gk gN fQ fR dY fS fT fW fX fY fZ ga gf gg gi gj dZ ea ec eS mF bytesOf bX eF aX bY fe bU cS dm still cx fM dO gR bZ gO List.isEmpty ed ef eg Int.reduceToNat Nat.mul_one Nat.reduceSub vj eG c8 eY dL look eZ strip guarded jw jO gU dC gQ dB kC fU fV Bool.or_false Bool.or_true Bool.and_true Bool.and_false Nat.blt gu gW gy dx idxOf iW ko mC gr a6 qY
open Rf
theorem iP {α:Type} {g:α→List PV} {f:α→PV} (hg:∀x,g x=[f x]) (l:List α) (k:Nat) (d:α) (e:PV) (hk:k<l.length):(l.flatMap g)[k]?.getD e=f (l.getD k d):=by
 have:=bK (g:=g) (m:=1) (fun x=>by rw[hg];rfl) l k d 0 hk (by omega);rw[Nat.mul_one,Nat.add_zero]at this;rw[this,hg];rfl
theorem aF.J3 {C:Ctx} {g:FuncId} {p r:PV} {B:eN} {ps:List PV} (hB:B.cells=ps.map .pv) (h:aF C g [.pv p,.ptr 0 0 0] [B] (.pv r) [B]) {μ:AM} {j:Nat} (hj:μ[j]?=some B):aF C g [.pv p,.ptr j 0 0] μ (.pv r) μ:=by
 have he:∀ay n,pL ay n B=B:=fun ay n=>by
  obtain⟨cs,a,b,c,d⟩:=B;simp only at hB;subst hB;simp[pL,nh,Function.comp_def]
 have hlt:=(List.getElem?_eq_some_iff.mp hj).1;have h1:=h.frame [j] μ (by simp) (by simpa using hlt) ⟨by rw[he];exact hj,trivial⟩ (by simp[aS,hB,cZ]) (by simp[cZ,Nat.blt]) (by simp);have h2:μ.set j B=μ:=by
  refine List.ext_getElem? fun i=>?_
  by_cases hi:j=i
  ·subst hi;rw[List.getElem?_set_self hlt,hj]
  rw[List.getElem?_set_ne hi]
 simpa [nh,nV,uq,he,h2]using h1
theorem BR (g:FuncId) (l:List Rg) (hl:l.length≤1000000000) (p:Rg→Bool) (h:∀x∈l,aq ctx g [.agg [.int .i64 x.lo,.int .i64 x.hi]] (.bool (p x))) :
  aq ctx 126 [aa l,.val (.func (.func g) #[] #[])] (.int .i64 (jL p l)):=by
 have f1:=bJ l;refine an (C:=ctx) (Fn.of GI rfl) rfl ?_;unfold BP;repeat' (first|((with_reducible first|show az _|show aB _);simp[vb]<;>omega)|exact(rfl:some _=_)|((fail_if_success refine aK ?_);refine bG ?_;(repeat1' dsimp only[BP,aa,go_sem]);first|refine aL ?_ ?_ rfl ?_|apply aM|apply aN|(refine aO (fun hc=>?_) fun hc=>?_<;>first|(cases hc;done)|(exfalso;simp at hc<;>omega)|(try simp only[bn]at hc;try contradiction))|skip))
 refine a7 l.length (fun k=>(l.take k).all (fun x=>!p x)=true) (fun k=>[(0,.pv (aa l)),(1,.pv (.val (.func (.func g) #[] #[]))),(7,.pv (.int .i64 l.length)),(8,.pv (.int .i64 k))]) (fun _=>[]) rfl (by (repeat' (first|exact trivial|refine And.intro (by first|rfl|(simp[get,Nat.beq]<;>omega)|(dsimp only[get];congr 1<;>first|rfl|omega|(simp<;>omega))) ?_))) ⟨[],rfl⟩ (fun _=>⟨Nat.zero_le _,rfl,rfl⟩) fun k hk hP=>?_
 by_cases hlt:k<l.length
 ·have e:=bQ ia l k zr hlt;have h1:=eB (fun x=>!p x) l k zr hlt;have h2:=po p l k zr hlt hP;have hx:=h (l.getD k zr) (aQ hlt);rw[hP,Bool.true_and]at h1;clear h;generalize l.getD k zr=x at *;generalize p x=px at *;repeat' (first|((with_reducible first|show az _|show aB _);(try dsimp only[go_sem]);first|(simp[vb,e,f1,hlt,hx,bS]<;>omega)|(simp only[vb,and_true,true_implies];(repeat' (first|(with_reducible assumption)|(with_reducible apply And.intro)|intro _|((fail_if_success (with_reducible show(_:Int)≤_));assumption)))<;>first|omega|(simp only[ab,e,f1,hlt,hx,bS];done)|(simp[e,f1,hlt,hx,bS]<;>omega)))|exact(rfl:some _=_)|((fail_if_success refine aK ?_);refine bw [ξ 15 (.agg [.int .i64 x.lo,.int .i64 x.hi]),ξ 16 (.bool px)] ?_;(repeat1' dsimp only[BP,aa,go_sem]);first|refine aL ?_ ?_ rfl ?_|apply aM|apply aN|(refine aO (fun hc=>?_) fun hc=>?_<;>first|(cases hc;done)|(exfalso;simp[e,f1,hlt,hx,bS]at hc<;>omega)|(try simp only[bn]at hc;try contradiction))|skip))
  all_goals first
   |(rw[h2 hc];done)
   |(
    refine⟨hlt,?_,by (repeat' (first|exact trivial|refine And.intro (by first|rfl|(simp[get,Nat.beq]<;>omega)|(dsimp only[get];congr 1<;>first|rfl|omega|(simp<;>omega))) ?_)),[],rfl⟩;rw[h1,hc];rfl)
 obtain rfl:k=l.length:=by omega
 rw[List.take_length]at hP;rw[nt p l hP];repeat' (first|((with_reducible first|show az _|show aB _);simp[vb,hlt]<;>omega)|exact(rfl:some _=_)|((fail_if_success refine aK ?_);refine bG ?_;(repeat1' dsimp only[BP,aa,go_sem]);first|refine aL ?_ ?_ rfl ?_|apply aM|apply aN|(refine aO (fun hc=>?_) fun hc=>?_<;>first|(cases hc;done)|(exfalso;simp[hlt]at hc<;>omega)|(try simp only[bn]at hc;try contradiction))|skip))
theorem BS (g:FuncId) (l:List Rg) (hl:l.length≤1000000000) (p:Rg→Bool) (h:∀x∈l,aq ctx g [.agg [.int .i64 x.lo,.int .i64 x.hi]] (.bool (p x))) :
  aq ctx 101 [aa l,.val (.func (.func g) #[] #[])] (.bool (l.any p)):=by
 have hx:=BR g l hl p h;rw[←rr];generalize jL p l=r at *;unfold aa at hx;refine an (C:=ctx) (Fn.of Gy rfl) rfl ?_;unfold Fm;repeat' (first|((with_reducible first|show az _|show aB _);simp[vb,hx,aa]<;>omega)|exact(rfl:some _=_)|((fail_if_success refine aK ?_);refine du [(126,fun _=>some (.int .i64 r))] ?_;(repeat1' dsimp only[Fm,aa,go_sem]);first|refine aL ?_ ?_ rfl ?_|apply aM|apply aN|(refine aO (fun hc=>?_) fun hc=>?_<;>first|(cases hc;done)|(exfalso;simp[hx,aa]at hc<;>omega)|(try simp only[bn]at hc;try contradiction))|skip))
theorem BU (g:FuncId) (l:List Int) (hl:l.length≤1000000000) (p:Int→Bool) (h:∀x∈l,aq ctx g [.int .i64 x] (.bool (p x))) :
  aq ctx 127 [au l,.val (.func (.func g) #[] #[])] (.int .i64 (jL p l)):=by
 have f1:=cO l;refine an (C:=ctx) (Fn.of GJ rfl) rfl ?_;unfold c127;repeat' (first|((with_reducible first|show az _|show aB _);simp[vb]<;>omega)|exact(rfl:some _=_)|((fail_if_success refine aK ?_);refine bG ?_;(repeat1' dsimp only[c127,au,go_sem]);first|refine aL ?_ ?_ rfl ?_|apply aM|apply aN|(refine aO (fun hc=>?_) fun hc=>?_<;>first|(cases hc;done)|(exfalso;simp at hc<;>omega)|(try simp only[bn]at hc;try contradiction))|skip))
 refine a7 l.length (fun k=>(l.take k).all (fun x=>!p x)=true) (fun k=>[(0,.pv (au l)),(1,.pv (.val (.func (.func g) #[] #[]))),(7,.pv (.int .i64 l.length)),(8,.pv (.int .i64 k))]) (fun _=>[]) rfl (by (repeat' (first|exact trivial|refine And.intro (by first|rfl|(simp[get,Nat.beq]<;>omega)|(dsimp only[get];congr 1<;>first|rfl|omega|(simp<;>omega))) ?_))) ⟨[],rfl⟩ (fun _=>⟨Nat.zero_le _,rfl,rfl⟩) fun k hk hP=>?_
 by_cases hlt:k<l.length
 ·have e:=iP (g:=aI) (fun _=>rfl) l k 0 default hlt;have h1:=eB (fun x=>!p x) l k 0 hlt;have h2:=po p l k 0 hlt hP;have hx:=h (l.getD k 0) (aQ hlt);rw[hP,Bool.true_and]at h1;clear h;generalize l.getD k 0=x at *;generalize p x=px at *;repeat' (first|((with_reducible first|show az _|show aB _);(try dsimp only[go_sem]);first|(simp[vb,e,f1,hlt,hx,aI]<;>omega)|(simp only[vb,and_true,true_implies];(repeat' (first|(with_reducible assumption)|(with_reducible apply And.intro)|intro _|((fail_if_success (with_reducible show(_:Int)≤_));assumption)))<;>first|omega|(simp only[ab,e,f1,hlt,hx,aI];done)|(simp[e,f1,hlt,hx,aI]<;>omega)))|exact(rfl:some _=_)|((fail_if_success refine aK ?_);refine bw [ξ 15 (.int .i64 x),ξ 16 (.bool px)] ?_;(repeat1' dsimp only[c127,au,go_sem]);first|refine aL ?_ ?_ rfl ?_|apply aM|apply aN|(refine aO (fun hc=>?_) fun hc=>?_<;>first|(cases hc;done)|(exfalso;simp[e,f1,hlt,hx,aI]at hc<;>omega)|(try simp only[bn]at hc;try contradiction))|skip))
  all_goals first
   |(rw[h2 hc];done)
   |(
    refine⟨hlt,?_,by (repeat' (first|exact trivial|refine And.intro (by first|rfl|(simp[get,Nat.beq]<;>omega)|(dsimp only[get];congr 1<;>first|rfl|omega|(simp<;>omega))) ?_)),[],rfl⟩;rw[h1,hc];rfl)
 obtain rfl:k=l.length:=by omega
 rw[List.take_length]at hP;rw[nt p l hP];repeat' (first|((with_reducible first|show az _|show aB _);simp[vb,hlt]<;>omega)|exact(rfl:some _=_)|((fail_if_success refine aK ?_);refine bG ?_;(repeat1' dsimp only[c127,au,go_sem]);first|refine aL ?_ ?_ rfl ?_|apply aM|apply aN|(refine aO (fun hc=>?_) fun hc=>?_<;>first|(cases hc;done)|(exfalso;simp[hlt]at hc<;>omega)|(try simp only[bn]at hc;try contradiction))|skip))
theorem BV (g:FuncId) (l:List Int) (hl:l.length≤1000000000) (p:Int→Bool) (h:∀x∈l,aq ctx g [.int .i64 x] (.bool (p x))) :
  aq ctx 103 [au l,.val (.func (.func g) #[] #[])] (.bool (l.any p)):=by
 have hx:=BU g l hl p h;rw[←rr];generalize jL p l=r at *;unfold au at hx;refine an (C:=ctx) (Fn.of GA rfl) rfl ?_;unfold Fq;repeat' (first|((with_reducible first|show az _|show aB _);simp[vb,hx,au]<;>omega)|exact(rfl:some _=_)|((fail_if_success refine aK ?_);refine du [(127,fun _=>some (.int .i64 r))] ?_;(repeat1' dsimp only[Fq,au,go_sem]);first|refine aL ?_ ?_ rfl ?_|apply aM|apply aN|(refine aO (fun hc=>?_) fun hc=>?_<;>first|(cases hc;done)|(exfalso;simp[hx,au]at hc<;>omega)|(try simp only[bn]at hc;try contradiction))|skip))
theorem BX (g:FuncId) (μ:AM) (hμ:aS μ μ.length=true) (j:Nat) (hj:j<μ.length) (l:List Rw) (hl:l.length≤1000000000) (p:Rw→Bool) (h:∀x∈l,aF ctx g [.pv (.agg [ar x.terms,.int .i64 x.bound]),.ptr j 0 0] μ (.pv (.bool (p x))) μ) :
  aF ctx 125 [.pv (ae l),.fn g [.ptr j 0 0]] μ (.pv (.int .i64 (jL p l))) μ:=by
 have f1:=da l;refine bc (C:=ctx) (Fn.of GG rfl) rfl (by simp) rfl hμ ?_;unfold BN;repeat' (first|((with_reducible first|show az _|show aB _);simp[vb]<;>omega)|exact(rfl:some _=_)|((fail_if_success refine aK ?_);refine bG ?_;(repeat1' dsimp only[BN,ae,go_sem]);first|refine aL ?_ ?_ rfl ?_|apply aM|apply aN|(refine aO (fun hc=>?_) fun hc=>?_<;>first|(cases hc;done)|(exfalso;simp at hc<;>omega)|(try simp only[bn]at hc;try contradiction))|skip))
 refine a7 l.length (fun k=>(l.take k).all (fun x=>!p x)=true) (fun k=>[(0,.pv (ae l)),(1,.fn g [.ptr j 0 0]),(7,.pv (.int .i64 l.length)),(8,.pv (.int .i64 k))]) (fun _=>μ) rfl (by (repeat' (first|exact trivial|refine And.intro (by first|rfl|(simp[get,Nat.beq]<;>omega)|(dsimp only[get];congr 1<;>first|rfl|omega|(simp<;>omega))) ?_))) ⟨[],(List.append_nil _).symm⟩ (fun _=>⟨Nat.le_refl _,by simp[cu,cZ,Nat.blt];omega,hμ⟩) fun k hk hP=>?_
 by_cases hlt:k<l.length
 ·have e:=bQ ib l k zw hlt;have h1:=eB (fun x=>!p x) l k zw hlt;have h2:=po p l k zw hlt hP;have hx:=h (l.getD k zw) (aQ hlt);rw[hP,Bool.true_and]at h1;clear h;generalize l.getD k zw=x at *;generalize p x=px at *;repeat' (first|((with_reducible first|show az _|show aB _);(try dsimp only[go_sem]);first|(simp[vb,e,f1,hlt,hx,cg]<;>omega)|(simp only[vb,and_true,true_implies];(repeat' (first|(with_reducible assumption)|(with_reducible apply And.intro)|intro _|((fail_if_success (with_reducible show(_:Int)≤_));assumption)))<;>first|omega|(simp only[ab,e,f1,hlt,hx,cg];done)|(simp[e,f1,hlt,hx,cg]<;>omega)))|exact(rfl:some _=_)|((fail_if_success refine aK ?_);refine bw [ξ 15 (.agg [ar x.terms,.int .i64 x.bound]),(16,{val:=some (.pv (.bool px)),ro:=true})] ?_;(repeat1' dsimp only[BN,ae,go_sem]);first|refine aL ?_ ?_ rfl ?_|apply aM|apply aN|(refine aO (fun hc=>?_) fun hc=>?_<;>first|(cases hc;done)|(exfalso;simp[e,f1,hlt,hx,cg]at hc<;>omega)|(try simp only[bn]at hc;try contradiction))|skip))
  all_goals first
   |(rw[h2 hc];exact⟨⟨trivial,rfl⟩,[],(List.append_nil _).symm⟩)
   |(
    refine⟨hlt,?_,by (repeat' (first|exact trivial|refine And.intro (by first|rfl|(simp[get,Nat.beq]<;>omega)|(dsimp only[get];congr 1<;>first|rfl|omega|(simp<;>omega))) ?_)),[],(List.append_nil _).symm⟩;rw[h1,hc];rfl)
 obtain rfl:k=l.length:=by omega
 rw[List.take_length]at hP;rw[nt p l hP];repeat' (first|((with_reducible first|show az _|show aB _);simp[vb,hlt]<;>omega)|exact(rfl:some _=_)|((fail_if_success refine aK ?_);refine bG ?_;(repeat1' dsimp only[BN,ae,go_sem]);first|refine aL ?_ ?_ rfl ?_|apply aM|apply aN|(refine aO (fun hc=>?_) fun hc=>?_<;>first|(cases hc;done)|(exfalso;simp[hlt]at hc<;>omega)|(try simp only[bn]at hc;try contradiction))|skip))
 all_goals exact⟨⟨trivial,rfl⟩,[],(List.append_nil _).symm⟩
theorem DD (g:FuncId) (μ:AM) (hμ:aS μ μ.length=true) (j:Nat) (hj:j<μ.length) (l:List Rw) (hl:l.length≤1000000000) (p:Rw→Bool) (h:∀x∈l,aF ctx g [.pv (.agg [ar x.terms,.int .i64 x.bound]),.ptr j 0 0] μ (.pv (.bool (p x))) μ) :
  aF ctx 98 [.pv (ae l),.fn g [.ptr j 0 0]] μ (.pv (.bool (l.any p))) μ:=by
 have hx:=BX g μ hμ j hj l hl p h;rw[←rr];generalize jL p l=r at *;unfold ae at hx;refine bc (C:=ctx) (Fn.of Ic rfl) rfl (by simp) rfl hμ ?_;unfold IP;repeat' (first|((with_reducible first|show az _|show aB _);simp[vb,hx,ae]<;>omega)|exact(rfl:some _=_)|((fail_if_success refine aK ?_);refine bw [(7,{val:=some (.pv (.int .i64 r)),ro:=true})] ?_;(repeat1' dsimp only[IP,ae,go_sem]);first|refine aL ?_ ?_ rfl ?_|apply aM|apply aN|(refine aO (fun hc=>?_) fun hc=>?_<;>first|(cases hc;done)|(exfalso;simp[hx,ae]at hc<;>omega)|(try simp only[bn]at hc;try contradiction))|skip))
 all_goals exact⟨⟨trivial,rfl⟩,[],(List.append_nil _).symm⟩
theorem BY (g:FuncId) (μ:AM) (hμ:aS μ μ.length=true) (j:Nat) (hj:j<μ.length) (l:List (List Rw)) (hl:l.length≤1000000000) (p:(List Rw)→Bool) (h:∀x∈l,aF ctx g [.pv (ae x),.ptr j 0 0] μ (.pv (.bool (p x))) μ) :
  aF ctx 105 [.pv (ah l),.fn g [.ptr j 0 0]] μ (.pv (.int .i64 (jL p l))) μ:=by
 have f1:=kP l;refine bc (C:=ctx) (Fn.of GC rfl) rfl (by simp) rfl hμ ?_;unfold c105;repeat' (first|((with_reducible first|show az _|show aB _);simp[vb]<;>omega)|exact(rfl:some _=_)|((fail_if_success refine aK ?_);refine bG ?_;(repeat1' dsimp only[c105,ah,go_sem]);first|refine aL ?_ ?_ rfl ?_|apply aM|apply aN|(refine aO (fun hc=>?_) fun hc=>?_<;>first|(cases hc;done)|(exfalso;simp at hc<;>omega)|(try simp only[bn]at hc;try contradiction))|skip))
 refine a7 l.length (fun k=>(l.take k).all (fun x=>!p x)=true) (fun k=>[(0,.pv (ah l)),(1,.fn g [.ptr j 0 0]),(7,.pv (.int .i64 l.length)),(8,.pv (.int .i64 k))]) (fun _=>μ) rfl (by (repeat' (first|exact trivial|refine And.intro (by first|rfl|(simp[get,Nat.beq]<;>omega)|(dsimp only[get];congr 1<;>first|rfl|omega|(simp<;>omega))) ?_))) ⟨[],(List.append_nil _).symm⟩ (fun _=>⟨Nat.le_refl _,by simp[cu,cZ,Nat.blt];omega,hμ⟩) fun k hk hP=>?_
 by_cases hlt:k<l.length
 ·have e:=iP (g:=sR) (fun _=>rfl) l k [] default hlt;have h1:=eB (fun x=>!p x) l k [] hlt;have h2:=po p l k [] hlt hP;have hx:=h (l.getD k []) (aQ hlt);rw[hP,Bool.true_and]at h1;clear h;generalize l.getD k []=x at *;generalize p x=px at *;repeat' (first|((with_reducible first|show az _|show aB _);(try dsimp only[go_sem]);first|(simp[vb,e,f1,hlt,hx,sR]<;>omega)|(simp only[vb,and_true,true_implies];(repeat' (first|(with_reducible assumption)|(with_reducible apply And.intro)|intro _|((fail_if_success (with_reducible show(_:Int)≤_));assumption)))<;>first|omega|(simp only[ab,e,f1,hlt,hx,sR];done)|(simp[e,f1,hlt,hx,sR]<;>omega)))|exact(rfl:some _=_)|((fail_if_success refine aK ?_);refine bw [ξ 15 (ae x),(16,{val:=some (.pv (.bool px)),ro:=true})] ?_;(repeat1' dsimp only[c105,ah,go_sem]);first|refine aL ?_ ?_ rfl ?_|apply aM|apply aN|(refine aO (fun hc=>?_) fun hc=>?_<;>first|(cases hc;done)|(exfalso;simp[e,f1,hlt,hx,sR]at hc<;>omega)|(try simp only[bn]at hc;try contradiction))|skip))
  all_goals first
   |(rw[h2 hc];exact⟨⟨trivial,rfl⟩,[],(List.append_nil _).symm⟩)
   |(
    refine⟨hlt,?_,by (repeat' (first|exact trivial|refine And.intro (by first|rfl|(simp[get,Nat.beq]<;>omega)|(dsimp only[get];congr 1<;>first|rfl|omega|(simp<;>omega))) ?_)),[],(List.append_nil _).symm⟩;rw[h1,hc];rfl)
 obtain rfl:k=l.length:=by omega
 rw[List.take_length]at hP;rw[nt p l hP];repeat' (first|((with_reducible first|show az _|show aB _);simp[vb,hlt]<;>omega)|exact(rfl:some _=_)|((fail_if_success refine aK ?_);refine bG ?_;(repeat1' dsimp only[c105,ah,go_sem]);first|refine aL ?_ ?_ rfl ?_|apply aM|apply aN|(refine aO (fun hc=>?_) fun hc=>?_<;>first|(cases hc;done)|(exfalso;simp[hlt]at hc<;>omega)|(try simp only[bn]at hc;try contradiction))|skip))
 all_goals exact⟨⟨trivial,rfl⟩,[],(List.append_nil _).symm⟩
theorem DE (g:FuncId) (μ:AM) (hμ:aS μ μ.length=true) (j:Nat) (hj:j<μ.length) (l:List (List Rw)) (hl:l.length≤1000000000) (p:(List Rw)→Bool) (h:∀x∈l,aF ctx g [.pv (ae x),.ptr j 0 0] μ (.pv (.bool (p x))) μ) :
  aF ctx 75 [.pv (ah l),.fn g [.ptr j 0 0]] μ (.pv (.bool (l.any p))) μ:=by
 have hx:=BY g μ hμ j hj l hl p h;rw[←rr];generalize jL p l=r at *;unfold ah at hx;refine bc (C:=ctx) (Fn.of H7 rfl) rfl (by simp) rfl hμ ?_;unfold c75;repeat' (first|((with_reducible first|show az _|show aB _);simp[vb,hx,ah]<;>omega)|exact(rfl:some _=_)|((fail_if_success refine aK ?_);refine bw [(7,{val:=some (.pv (.int .i64 r)),ro:=true})] ?_;(repeat1' dsimp only[c75,ah,go_sem]);first|refine aL ?_ ?_ rfl ?_|apply aM|apply aN|(refine aO (fun hc=>?_) fun hc=>?_<;>first|(cases hc;done)|(exfalso;simp[hx,ah]at hc<;>omega)|(try simp only[bn]at hc;try contradiction))|skip))
 all_goals exact⟨⟨trivial,rfl⟩,[],(List.append_nil _).symm⟩
theorem BZ (g:FuncId) (μ:AM) (hμ:aS μ μ.length=true) (j:Nat) (hj:j<μ.length) (l:List Tm) (hl:l.length≤1000000000) (p:Tm→Bool) (h:∀x∈l,aF ctx g [.pv (.agg [.int .i64 x.cell,.int .i64 x.fac]),.ptr j 0 0] μ (.pv (.bool (p x))) μ) :
  aF ctx 147 [.pv (ar l),.fn g [.ptr j 0 0]] μ (.pv (.int .i64 (jL p l))) μ:=by
 have f1:=fG l;refine bc (C:=ctx) (Fn.of GN rfl) rfl (by simp) rfl hμ ?_;unfold BQ;repeat' (first|((with_reducible first|show az _|show aB _);simp[vb]<;>omega)|exact(rfl:some _=_)|((fail_if_success refine aK ?_);refine bG ?_;(repeat1' dsimp only[BQ,ar,go_sem]);first|refine aL ?_ ?_ rfl ?_|apply aM|apply aN|(refine aO (fun hc=>?_) fun hc=>?_<;>first|(cases hc;done)|(exfalso;simp at hc<;>omega)|(try simp only[bn]at hc;try contradiction))|skip))
 refine a7 l.length (fun k=>(l.take k).all (fun x=>!p x)=true) (fun k=>[(0,.pv (ar l)),(1,.fn g [.ptr j 0 0]),(7,.pv (.int .i64 l.length)),(8,.pv (.int .i64 k))]) (fun _=>μ) rfl (by (repeat' (first|exact trivial|refine And.intro (by first|rfl|(simp[get,Nat.beq]<;>omega)|(dsimp only[get];congr 1<;>first|rfl|omega|(simp<;>omega))) ?_))) ⟨[],(List.append_nil _).symm⟩ (fun _=>⟨Nat.le_refl _,by simp[cu,cZ,Nat.blt];omega,hμ⟩) fun k hk hP=>?_
 by_cases hlt:k<l.length
 ·have e:=bQ kO l k zm hlt;have h1:=eB (fun x=>!p x) l k zm hlt;have h2:=po p l k zm hlt hP;have hx:=h (l.getD k zm) (aQ hlt);rw[hP,Bool.true_and]at h1;clear h;generalize l.getD k zm=x at *;generalize p x=px at *;repeat' (first|((with_reducible first|show az _|show aB _);(try dsimp only[go_sem]);first|(simp[vb,e,f1,hlt,hx,gZ]<;>omega)|(simp only[vb,and_true,true_implies];(repeat' (first|(with_reducible assumption)|(with_reducible apply And.intro)|intro _|((fail_if_success (with_reducible show(_:Int)≤_));assumption)))<;>first|omega|(simp only[ab,e,f1,hlt,hx,gZ];done)|(simp[e,f1,hlt,hx,gZ]<;>omega)))|exact(rfl:some _=_)|((fail_if_success refine aK ?_);refine bw [ξ 15 (.agg [.int .i64 x.cell,.int .i64 x.fac]),(16,{val:=some (.pv (.bool px)),ro:=true})] ?_;(repeat1' dsimp only[BQ,ar,go_sem]);first|refine aL ?_ ?_ rfl ?_|apply aM|apply aN|(refine aO (fun hc=>?_) fun hc=>?_<;>first|(cases hc;done)|(exfalso;simp[e,f1,hlt,hx,gZ]at hc<;>omega)|(try simp only[bn]at hc;try contradiction))|skip))
  all_goals first
   |(rw[h2 hc];exact⟨⟨trivial,rfl⟩,[],(List.append_nil _).symm⟩)
   |(
    refine⟨hlt,?_,by (repeat' (first|exact trivial|refine And.intro (by first|rfl|(simp[get,Nat.beq]<;>omega)|(dsimp only[get];congr 1<;>first|rfl|omega|(simp<;>omega))) ?_)),[],(List.append_nil _).symm⟩;rw[h1,hc];rfl)
 obtain rfl:k=l.length:=by omega
 rw[List.take_length]at hP;rw[nt p l hP];repeat' (first|((with_reducible first|show az _|show aB _);simp[vb,hlt]<;>omega)|exact(rfl:some _=_)|((fail_if_success refine aK ?_);refine bG ?_;(repeat1' dsimp only[BQ,ar,go_sem]);first|refine aL ?_ ?_ rfl ?_|apply aM|apply aN|(refine aO (fun hc=>?_) fun hc=>?_<;>first|(cases hc;done)|(exfalso;simp[hlt]at hc<;>omega)|(try simp only[bn]at hc;try contradiction))|skip))
 all_goals exact⟨⟨trivial,rfl⟩,[],(List.append_nil _).symm⟩
end Pur
end
section
namespace Rf
open Pur
def Fw (k:Int) (_:Int) (t:Tree):Bool×Int:=(true,IntKind.i64.wrap (k+t.steps.length))
def Ih (k:Int) (lev:Int) (_:Tree):Bool×Int:=(true,if k<lev then lev else k)
theorem AA {n:Int} (h1:0≤n) (h2:n≤4000000000):IntKind.i64.wrap n=n:=iu (by unfold pM;omega) (by unfold jH;omega)
mutual
theorem AB:∀(t:Tree) (k lev:Int),0≤k→k+wt t≤3000000000→qZ Fw k lev t=(true,k+aT t)
 | .node kd s c a l,k,lev,h0,h1=>by
  rw[cz]at h1;rw[qZ,ey];show(match Fw k lev (.node kd s c a l) with|(false,k1)=>(false,k1)|(true,k1)=>iN Fw k1 (lev+1) l)=_;have hs:Fw k lev (.node kd s c a l)=(true,k+s.length):=by
   simp only[Fw,Tree.steps];rw[AA (by omega) (by omega)]
  rw[hs];show iN Fw _ _ l=_;rw[xL l _ _ (by omega) (by push_cast at h1;omega)];simp only[Prod.mk.injEq,true_and];push_cast;omega
theorem xL:∀(l:List Tree) (k lev:Int),0≤k→k+iA l≤3000000000→iN Fw k lev l=(true,k+aW l)
 |[],k,lev,h0,h1=>by rw[iN];simp[aW]
 |t::r,k,lev,h0,h1=>by
  rw[iA]at h1;have:=jk t;rw[iN,AB t k lev h0 (by push_cast at h1;omega)];show iN Fw _ _ r=_;rw[xL r _ _ (by omega) (by push_cast at h1;omega),aW];simp only[Prod.mk.injEq,true_and];push_cast;omega
end
mutual
theorem AD:∀(t:Tree) (k lev:Int),lev-1≤k→qZ Ih k lev t=(true,if k<lev+c7 t-1 then lev+c7 t-1 else k)
 | .node kd s c a l,k,lev,h0=>by
  rw[qZ,iy];show iN Ih (if k<lev then lev else k) (lev+1) l=_;rw[xM l _ _ (by split<;>omega)];simp only[Prod.mk.injEq,true_and];(repeat' split)<;>omega
theorem xM:∀(l:List Tree) (k lev:Int),lev-1≤k→iN Ih k lev l=(true,if k<lev+cK l-1 then lev+cK l-1 else k)
 |[],k,lev,h0=>by
  rw[iN];simp only[cK,Prod.mk.injEq,true_and];(repeat' split)<;>omega
 |t::r,k,lev,h0=>by
  rw[iN,AD t k lev h0];show iN Ih _ lev r=_;rw[xM r _ _ (by split<;>omega),cK];simp only[Prod.mk.injEq,true_and];rcases Nat.le_total (c7 t) (cK r) with h|h
  ·rw[Nat.max_eq_right h];(repeat' split)<;>omega
  rw[Nat.max_eq_left h];(repeat' split)<;>omega
end
def uE (k:Int×Bool) (lev:Int) (t:Tree):Bool×Int×Bool :=
 let c:=IntKind.i64.wrap (k.1+(1+t.steps.length))
 let bad:=bif decide (lev>4096) then true else bif decide (c>65536) then true else !qN t
 (!bad,c,bad)
theorem Hm (a b:Bool):(bif a then true else b)=(a||b):=by cases a<;>rfl
mutual
theorem AE:∀(t:Tree) (c lev:Int),0≤c→c+wt t≤3000000000→(qZ uE (c,false) lev t).2.2= !(qZ uE (c,false) lev t).1 ∧
  ((qZ uE (c,false) lev t).1=true↔(lev+c7 t≤4097∧c+wt t≤65536∧eA t=true))∧((qZ uE (c,false) lev t).1=true→(qZ uE (c,false) lev t).2=(c+wt t,false))
 | .node kd s x a l,c,lev,h0,h1=>by
  rw[cz]at h1 ⊢;rw[qZ,iy,cY];have hs:uE (c,false) lev (.node kd s x a l)=(!(decide (lev>4096)||(decide (c+(1+s.length)>65536)|| !(s.all bL&&gT kd x a l.length))),c+(1+s.length),decide (lev>4096)||(decide (c+(1+s.length)>65536)|| !(s.all bL&&gT kd x a l.length))):=by
   have hw:IntKind.i64.wrap (c+(1+s.length))=c+(1+s.length):=AA (by omega) (by push_cast at h1;omega);simp only[uE,qN,Tree.steps,Tree.kind,Tree.cell,Tree.pos,Tree.kids,Hm,hw]
  rw[hs];cases hb:decide (lev>4096)||(decide (c+(1+s.length)>65536)|| !(s.all bL&&gT kd x a l.length)) with
  |true =>
   refine⟨rfl,⟨(fun h=>by cases h),fun ⟨g1,g2,g3⟩=>?_⟩,(fun h=>by cases h)⟩;exfalso;simp only[Bool.and_eq_true]at g3;simp only[Bool.or_eq_true,decide_eq_true_eq,Bool.not_eq_true',Bool.and_eq_false_iff]at hb;rw[g3.1.1,g3.1.2]at hb;push_cast at g1 g2;simp at hb;omega
  |false =>
   simp only[Bool.or_eq_false_iff,decide_eq_false_iff_not,Bool.not_eq_false']at hb;obtain⟨b1,b2,b3⟩:=hb;obtain⟨q1,q2,q3⟩:=xN l (c+(1+s.length)) (lev+1) (by omega) (by push_cast at h1;omega) (by omega) (by omega);refine⟨q1,q2.trans ?_,fun h=>(q3 h).trans ?_⟩
   ·rw[b3,Bool.true_and];push_cast;constructor
    ·rintro⟨g1,g2,g3⟩;exact⟨by omega,by omega,g3⟩
    rintro⟨g1,g2,g3⟩;exact⟨by omega,by omega,g3⟩
   push_cast;rw[Prod.mk.injEq];exact⟨by omega,rfl⟩
theorem xN:∀(l:List Tree) (c lev:Int),0≤c→c+iA l≤3000000000→c≤65536→lev≤4097→(iN uE (c,false) lev l).2.2= !(iN uE (c,false) lev l).1 ∧
  ((iN uE (c,false) lev l).1=true↔(lev+cK l≤4097∧c+iA l≤65536∧l.all eA=true))∧((iN uE (c,false) lev l).1=true→(iN uE (c,false) lev l).2=(c+iA l,false))
 |[],c,lev,h0,h1,h2,h3=>by
  rw[iN];refine⟨rfl,⟨fun _=>⟨by simp[cK];omega,by simp[iA];omega,rfl⟩,fun _=>rfl⟩,fun _=>by simp[iA]⟩
 |t::r,c,lev,h0,h1,h2,h3=>by
  rw[iA]at h1 ⊢;rw[iN,cK,List.all_cons];obtain⟨q1,q2,q3⟩:=AE t c lev h0 (by push_cast at h1;omega);generalize qZ uE (c,false) lev t=v at *;obtain⟨b,k1⟩:=v;simp only at q1 q2 q3;cases b with
  |false =>
   refine⟨q1,⟨(fun h=>by cases h),fun ⟨g1,g2,g3⟩=>?_⟩,(fun h=>by cases h)⟩;rw[Bool.and_eq_true]at g3;have:=Nat.le_max_left (c7 t) (cK r);exact absurd (q2.mpr ⟨by omega,by push_cast at g2;omega,g3.1⟩) (by simp)
  |true =>
   obtain⟨g1,g2,g3⟩:=q2.mp rfl;obtain rfl:=q3 rfl;obtain⟨p1,p2,p3⟩:=xN r (c+wt t) lev (by omega) (by push_cast at h1;omega) (by omega) h3;refine⟨p1,p2.trans ?_,fun h=>(p3 h).trans ?_⟩
   ·rw[g3,Bool.true_and];push_cast;constructor
    ·rintro⟨e1,e2,e3⟩;exact⟨by rcases Nat.le_total (c7 t) (cK r) with h|h<;>simp only[Nat.max_eq_right h,Nat.max_eq_left h]<;>omega,by omega,e3⟩
    rintro⟨e1,e2,e3⟩;exact⟨by have:=Nat.le_max_right (c7 t) (cK r);omega,by omega,e3⟩
   push_cast;rw[Prod.mk.injEq];exact⟨by omega,rfl⟩
end
theorem DF (t:Tree) (h:wt t≤1000000000):(qZ uE (0,false) 1 t).2.2= !gC t:=by
 obtain⟨q1,q2,-⟩:=AE t 0 1 (by omega) (by omega);rw[q1];congr 1;rw[Bool.eq_iff_iff,q2];simp only[gC,Bool.and_eq_true,decide_eq_true_eq];constructor
 ·rintro⟨a,b,c⟩;exact⟨⟨by omega,by omega⟩,c⟩
 rintro⟨⟨a,b⟩,c⟩;exact⟨by omega,by omega,c⟩
end Rf
namespace Pur
open Go.RowKit
attribute [local go_sem] ξ bN gv ca bz cI ji List.map bA aP get put tmpsOf eK mB kU ly conds ev cond_true cond_false Nat.beq Nat.ble Nat.add quiet eL cW dn wg List.append_eq List.nil_append List.cons_append eJ eh ei ek eo ep eu iB iq eR mE fK calm quiet.isCallK dd List.getElem?_cons_zero List.getElem?_cons_succ bV cX cellsOf List.all bP List.length_cons List.length_nil gV br List.drop List.take List.getD Option.getD_some Ab Ac yX Ad Ae Af iJ kL iK iL setAt List.set Nat.reduceAdd Nat.reduceMul cR bM refsOf bT b8 scalar dk fN cv dj a6 after freeze iV lR aZ eX gx gk gN fQ fR dY fS fT fW fX fY fZ ga gf gg gi gj dZ ea ec eS mF bytesOf bX eF aX bY fe bU cS dm still cx fM dO gR bZ gO List.isEmpty ed ef eg Int.reduceToNat Nat.mul_one Nat.reduceSub vj eG c8 eY dL look eZ strip guarded jw jO gU dC gQ dB kC fU fV Bool.or_false Bool.or_true Bool.and_true Bool.and_false Nat.blt gu gW gy dx idxOf iW ko mC gr a6 qY
open Rf
def il (k:Int):eN:=⟨[.pv (.int .i64 k)],0,1,3,false⟩
theorem AG (k:Int):∀b∈[il k],BC b:=by
 intro b hb;rw[List.mem_singleton.mp hb];exact⟨by simp[il,xp],rfl,rfl,by simp[il]⟩
theorem sV (t:Tree) (hw:wt t≤1000000000):aq ctx 15 [aE t] (.int .i64 (aT t)):=by
 refine ov (C:=ctx) (Fn.of I7 rfl) rfl ?_;unfold I6;refine hZ (fy fun D=>?_);refine bG ?_;dsimp only[aE,go_sem];try dsimp only[aE,go_sem]
 refine⟨(by simp[vb]<;>omega),(by simp[vb]<;>omega),?_⟩;refine hZ (fy fun D=>?_);refine bG ?_;dsimp only[aE,go_sem];try dsimp only[aE,go_sem]
 refine⟨(by simp[vb]<;>omega),(by simp[vb]<;>omega),?_⟩;refine hZ (hZ (fy fun D=>?_));have hn:=(sP t [ax t,il 0] rfl).I1 D;refine bw [(7,{val:=some (.fn 67 [.ptr 2 0 0]),mem:=some ([ax t,il 0]++[ax t])})] ?_;dsimp only[aE,ax,il,go_sem];try dsimp only[aE,ax,il,go_sem]
 refine⟨(by simp[vb]<;>omega),?_,?_⟩
 ·exact⟨hn,trivial⟩
 refine sG [1,2] rfl ?_;dsimp only[gu,gW,gy,dx,idxOf,go_sem]
 refine qh (qj (σ:=Int) (q:=1) (bt:=1) (k0:=0) (k':=aT t) (fo:=fun k=>[il k]) (stop:=fun _=>false) (junk:=[ax t]) (kb:=ax t) (cells:=[.int .i64 t.kind,aj t.steps,.int .i64 t.cell,.int .i64 t.pos,aw t.kids]) (g0:=[(3,.ptr 0 0 0)]) (rv:=.pv (.tup [])) rfl (by omega) rfl rfl rfl (by simp[ax]) (by kernel_rfl) (fun _=>rfl) AG rfl rfl (by (repeat' (first|exact trivial|refine And.intro (by first|rfl|(simp[get,Nat.beq]<;>omega)|(dsimp only[get];congr 1<;>first|rfl|omega|(simp<;>omega))) ?_))) (by omega) (by omega) (by omega) ?_ (fun _=>?_) (fun h=>by cases h))
 ·intro w0 w1 S γ l L hX hround;have:=ql (X:=⟨_,hX.hE,_⟩) l Fw (fun _=>True) (fun _ _ _ _ _=>trivial) (fun k lev u μ _ hμ hwu hl0 hl1=>hround (.int .i64 lev) (aE u) k _ true μ rfl rfl ?_) t hw 0 trivial
  ·rw[AB t 0 1 (by omega) (by omega)]at this;rw[Int.zero_add]at this;exact this
  refine j0 false [] ?_;dsimp only[aE,aj,aw,il,cW,go_sem];refine⟨by simp[az],by simp[aB],?_⟩;refine qg (j0 false [(4,{mode:=1})] ?_);dsimp only[aE,aj,aw,il,cW,go_sem];refine⟨by simp[az],by simp[aB],?_⟩;exact⟨rfl,_,rfl⟩
 refine fy fun D=>?_
 repeat' (first|((with_reducible first|show az _|show aB _);simp[vb]<;>omega)|exact(rfl:some _=_)|((fail_if_success refine aK ?_);refine bG ?_;(repeat1' dsimp only[I6,il,go_sem]);first|refine aL ?_ ?_ rfl ?_|apply aM|apply aN|(refine aO (fun hc=>?_) fun hc=>?_<;>first|(cases hc;done)|(exfalso;simp at hc<;>omega)|(try simp only[bn]at hc;try contradiction))|skip))
theorem DG (t:Tree) (hw:wt t≤1000000000):aq ctx 17 [aE t] (.int .i64 (c7 t)):=by
 refine ov (C:=ctx) (Fn.of I9 rfl) rfl ?_;unfold I8;refine hZ (fy fun D=>?_);refine bG ?_;dsimp only[aE,go_sem];try dsimp only[aE,go_sem]
 refine⟨(by simp[vb]<;>omega),(by simp[vb]<;>omega),?_⟩;refine hZ (fy fun D=>?_);refine bG ?_;dsimp only[aE,go_sem];try dsimp only[aE,go_sem]
 refine⟨(by simp[vb]<;>omega),(by simp[vb]<;>omega),?_⟩;refine hZ (hZ (fy fun D=>?_));have hn:=(sP t [ax t,il 0] rfl).I1 D;refine bw [(6,{val:=some (.fn 67 [.ptr 2 0 0]),mem:=some ([ax t,il 0]++[ax t])})] ?_;dsimp only[aE,ax,il,go_sem];try dsimp only[aE,ax,il,go_sem]
 refine⟨(by simp[vb]<;>omega),?_,?_⟩
 ·exact⟨hn,trivial⟩
 refine sG [1,2] rfl ?_;dsimp only[gu,gW,gy,dx,idxOf,go_sem]
 refine qh (qj (σ:=Int) (q:=1) (bt:=1) (k0:=0) (k':=c7 t) (fo:=fun k=>[il k]) (stop:=fun _=>false) (junk:=[ax t]) (kb:=ax t) (cells:=[.int .i64 t.kind,aj t.steps,.int .i64 t.cell,.int .i64 t.pos,aw t.kids]) (g0:=[(3,.ptr 0 0 0)]) (rv:=.pv (.tup [])) rfl (by omega) rfl rfl rfl (by simp[ax]) (by kernel_rfl) (fun _=>rfl) AG rfl rfl (by (repeat' (first|exact trivial|refine And.intro (by first|rfl|(simp[get,Nat.beq]<;>omega)|(dsimp only[get];congr 1<;>first|rfl|omega|(simp<;>omega))) ?_))) (by omega) (by omega) (by omega) ?_ (fun _=>?_) (fun h=>by cases h))
 ·intro w0 w1 S γ l L hX hround;have:=ql (X:=⟨_,hX.hE,_⟩) l Ih (fun _=>True) (fun _ _ _ _ _=>trivial) (fun k lev u μ _ hμ hwu hl0 hl1=>hround (.int .i64 lev) (aE u) k _ true μ rfl rfl ?_) t hw 0 trivial
  ·rw[AD t 0 1 (by omega)]at this;have e:(if (0:Int)<1+c7 t-1 then (1:Int)+c7 t-1 else 0)=c7 t:=by split<;>omega
   rw[e]at this;exact this
  refine j0 false [] ?_;dsimp only[aE,aj,aw,il,cW,go_sem];refine⟨by simp[az],by simp[aB],?_⟩;refine qg (j0 false [] ?_);dsimp only[aE,aj,aw,il,cW,go_sem];refine⟨by simp[az],by simp[aB],?_⟩;exact⟨rfl,[],rfl⟩
 refine fy fun D=>?_
 repeat' (first|((with_reducible first|show az _|show aB _);simp[vb]<;>omega)|exact(rfl:some _=_)|((fail_if_success refine aK ?_);refine bG ?_;(repeat1' dsimp only[I8,il,go_sem]);first|refine aL ?_ ?_ rfl ?_|apply aM|apply aN|(refine aO (fun hc=>?_) fun hc=>?_<;>first|(cases hc;done)|(exfalso;simp at hc<;>omega)|(try simp only[bn]at hc;try contradiction))|skip))
def pq (k:Int×Bool):AM:=[⟨[.pv (.bool false)],0,1,4,false⟩,il k.1]
theorem Fx (k:Int×Bool):∀b∈pq k,BC b:=by
 intro b hb;simp only[pq,List.mem_cons,List.not_mem_nil,or_false]at hb;rcases hb with rfl|rfl
 ·exact⟨by simp[xp],rfl,rfl,by simp⟩
 exact⟨by simp[il,xp],rfl,rfl,by simp[il]⟩
theorem sW (t:Tree) (hw:wt t≤1000000000):aq ctx 13 [aE t] (.bool (gC t)):=by
 refine ov (C:=ctx) (Fn.of Jb rfl) rfl ?_;unfold Ja;refine hZ (fy fun D=>?_);refine bG ?_;dsimp only[aE,go_sem];try dsimp only[aE,go_sem]
 refine⟨(by simp[vb]<;>omega),(by simp[vb]<;>omega),?_⟩;refine hZ (fy fun D=>?_);refine bG ?_;dsimp only[aE,go_sem];try dsimp only[aE,go_sem]
 refine⟨(by simp[vb]<;>omega),(by simp[vb]<;>omega),?_⟩;refine hZ (hZ (fy fun D=>?_));have hn:=(sP t ([ax t]++pq (0,false)) rfl).I1 D;refine bw [(7,{val:=some (.fn 67 [.ptr 3 0 0]),mem:=some (([ax t]++pq (0,false))++[ax t])})] ?_;dsimp only[aE,ax,il,pq,go_sem];try dsimp only[aE,ax,il,pq,go_sem]
 refine⟨(by simp[vb]<;>omega),?_,?_⟩
 ·exact⟨hn,trivial⟩
 refine sG [1,2,3] rfl ?_;dsimp only[gu,gW,gy,dx,idxOf,go_sem];have hve:=DF t hw
 refine qh (qj (σ:=Int×Bool) (q:=2) (bt:=2) (k0:=(0,false)) (k':=(qZ uE (0,false) 1 t).2) (fo:=pq) (stop:=fun k=>k.2) (junk:=[ax t]) (kb:=ax t) (cells:=[.int .i64 t.kind,aj t.steps,.int .i64 t.cell,.int .i64 t.pos,aw t.kids]) (g0:=[(2,.ptr 0 0 0),(3,.ptr 1 0 0)]) (rv:=.pv (.tup [])) rfl (by omega) rfl rfl rfl (by simp[ax]) (by kernel_rfl) (fun _=>rfl) Fx rfl rfl (by (repeat' (first|exact trivial|refine And.intro (by first|rfl|(simp[get,Nat.beq]<;>omega)|(dsimp only[get];congr 1<;>first|rfl|omega|(simp<;>omega))) ?_))) (by omega) (by omega) (by omega) ?_ (fun hst=>?_) (fun hst=>?_))
 ·intro w0 w1 S γ l L hX hround;refine ql (X:=⟨_,hX.hE,_⟩) l uE (fun k=>k.2=false) (fun k lev u hk hst=>?_) (fun k lev u μ hk hμ hwu hl0 hl1=>hround (.int .i64 lev) (aE u) k _ (uE k lev u).1 μ hk ?_ ?_) t hw (0,false) rfl
  ·simp only[uE,Bool.not_eq_true']at hst ⊢;exact hst
  ·simp only[uE,Bool.not_not]
  refine rp (j0 false [] ?_);dsimp only[aE,aj,aw,il,pq,cW,go_sem];refine⟨by simp[az],by simp[aB],?_⟩;refine j0 false [] ?_;dsimp only[aE,aj,aw,il,pq,cW,go_sem];refine⟨by simp[az],by simp[aB],?_⟩;have hnode:=Fh u hwu;refine qg (rp (j0 false [(5,{mode:=1})] ?_));dsimp only[aE,aj,aw,il,pq,cW,go_sem];have hsl:u.steps.length≤1000000000:=by
   obtain⟨kd,s,c,a,ks⟩:=u;rw[cz]at hwu;simp only[Tree.steps];omega
  refine⟨by simp[az,pM,jH];omega,by simp[aB],?_⟩;have hst:uE k lev u=(!(bif decide (4096<lev) then true else bif decide (65536<IntKind.i64.wrap (k.1+(1+(u.steps.length:Int)))) then true else !qN u),IntKind.i64.wrap (k.1+(1+u.steps.length)),bif decide (4096<lev) then true else bif decide (65536<IntKind.i64.wrap (k.1+(1+(u.steps.length:Int)))) then true else !qN u):=rfl;rw[hst];unfold aE aj aw at hnode;refine rp (j0 true [ξ 8 (.bool (qN u))] ?_);dsimp only[aE,aj,aw,il,pq,cW,go_sem];generalize decide (4096<lev)=A
  generalize decide (65536<IntKind.i64.wrap (k.1+(1+(u.steps.length:Int))))=B;generalize qN u=N at *;refine⟨by simp[az],by cases A<;>cases B<;>simp[aB,az]<;>exact hnode,?_⟩;refine Da rfl ?_;cases A<;>cases B<;>cases N;all_goals first
   |(
    refine Db ?_;exact⟨rfl,_,rfl⟩)
   |(
    refine rp (j0 false [] ?_);dsimp only[aE,aj,aw,il,pq,cW,go_sem];refine⟨by simp[az],by simp[aB],?_⟩;refine E4 ?_;exact⟨rfl,_,rfl⟩)
 ·rw[hve,Bool.not_eq_false']at hst;refine fy fun D=>?_
  repeat' (first|((with_reducible first|show az _|show aB _);simp[vb]<;>omega)|exact(rfl:some _=_)|((fail_if_success refine aK ?_);refine bG ?_;(repeat1' dsimp only[Ja,il,pq,go_sem]);first|refine aL ?_ ?_ rfl ?_|apply aM|apply aN|(refine aO (fun hc=>?_) fun hc=>?_<;>first|(cases hc;done)|(exfalso;simp at hc<;>omega)|(try simp only[bn]at hc;try contradiction))|skip))
  rw[hst]
 rw[hve,Bool.not_eq_true']at hst;rw[hst];dsimp only[dn,cW,pq,il,go_sem];exact⟨by simp[az],rfl⟩
end Pur
end
section
namespace Rf
end Rf
namespace Pur
open Go.RowKit
attribute [local go_sem] ξ bN gv ca bz cI ji List.map bA aP get put tmpsOf eK mB kU ly conds ev cond_true cond_false Nat.beq Nat.ble Nat.add quiet eL cW dn wg List.append_eq List.nil_append List.cons_append eJ eh ei ek eo ep eu iB iq eR mE fK calm quiet.isCallK dd List.getElem?_cons_zero List.getElem?_cons_succ bV cX cellsOf List.all bP List.length_cons List.length_nil gV br List.drop List.take List.getD Option.getD_some Ab Ac yX Ad Ae Af iJ kL iK iL setAt List.set Nat.reduceAdd Nat.reduceMul cR bM refsOf bT b8 scalar dk fN cv dj a6 after freeze iV lR aZ eX gx gk gN fQ fR dY fS fT fW fX fY fZ ga gf gg gi gj dZ ea ec eS mF bytesOf bX eF aX bY fe bU cS dm still cx fM dO gR bZ gO List.isEmpty ed ef eg Int.reduceToNat Nat.mul_one Nat.reduceSub vj eG c8 eY dL look eZ strip guarded jw jO gU dC gQ dB kC fU fV Bool.or_false Bool.or_true Bool.and_true Bool.and_false Nat.blt gu gW gy dx idxOf iW ko mC gr a6 qY
open Rf
def c53:av:=(⟨_,by conv=>(lhs;reduce;try simp only[G4,Int.cast_ofNat_Int,Int.reduceNegSucc,UInt8.reduceOfNat])⟩:{x // codeOf Tryz.prog 53 (fun _=>false)=some x}).1
end Pur
end
section
namespace Pur
open Go.RowKit
attribute [local go_sem] ξ bN gv ca bz cI ji List.map bA aP get put tmpsOf eK mB kU ly conds ev cond_true cond_false Nat.beq Nat.ble Nat.add quiet eL cW dn wg List.append_eq List.nil_append List.cons_append eJ eh ei ek eo ep eu iB iq eR mE fK calm quiet.isCallK dd List.getElem?_cons_zero List.getElem?_cons_succ bV cX cellsOf List.all bP List.length_cons List.length_nil gV br List.drop List.take List.getD Option.getD_some Ab Ac yX Ad Ae Af iJ kL iK iL setAt List.set Nat.reduceAdd Nat.reduceMul cR bM refsOf bT b8 scalar dk fN cv dj a6 after freeze iV lR aZ eX gx gk gN fQ fR dY fS fT fW fX fY fZ ga gf gg gi gj dZ ea ec eS mF bytesOf bX eF aX bY fe bU cS dm still cx fM dO gR bZ gO List.isEmpty ed ef eg Int.reduceToNat Nat.mul_one Nat.reduceSub vj eG c8 eY dL look eZ strip guarded jw jO gU dC gQ dB kC fU fV Bool.or_false Bool.or_true Bool.and_true Bool.and_false Nat.blt gu gW gy dx idxOf iW ko mC gr a6 qY
section
open Rf
theorem dR {α:Type} (l:List α) (k:Nat) (d:α) (hk:k<l.length):l.drop k=l.getD k d::l.drop (k+1):=by
 rw[List.drop_eq_getElem_cons hk,List.getD,List.getElem?_eq_getElem hk];rfl
theorem sX (x:Rg):aq ctx 102 [.agg [.int .i64 x.lo,.int .i64 x.hi]] (.bool (cA x)):=by
 refine an (C:=ctx) (Fn.of Gz rfl) rfl ?_;unfold Fp;repeat' (first|((with_reducible first|show az _|show aB _);simp[vb]<;>omega)|exact(rfl:some _=_)|((fail_if_success refine aK ?_);refine bG ?_;(repeat1' dsimp only[Fp,cA,go_sem]);first|refine aL ?_ ?_ rfl ?_|apply aM|apply aN|(refine aO (fun hc=>?_) fun hc=>?_<;>first|(cases hc;done)|(exfalso;simp at hc<;>omega)|(try simp only[bn]at hc;try contradiction))|skip))
theorem xO (b:List Rg) (hb:b.length≤1000000000):aq ctx 72 [aa b] (.bool (bO b)):=by
 have hx:=BS 102 b hb cA fun x _=>sX x
 unfold bO;generalize b.any cA=q at *;unfold aa at hx;refine an (C:=ctx) (Fn.of H5 rfl) rfl ?_;unfold c72;repeat' (first|((with_reducible first|show az _|show aB _);simp[vb,hx,aa]<;>omega)|exact(rfl:some _=_)|((fail_if_success refine aK ?_);refine du [(101,fun _=>some (.bool q))] ?_;(repeat1' dsimp only[c72,aa,go_sem]);first|refine aL ?_ ?_ rfl ?_|apply aM|apply aN|(refine aO (fun hc=>?_) fun hc=>?_<;>first|(cases hc;done)|(exfalso;simp[hx,aa]at hc<;>omega)|(try simp only[bn]at hc;try contradiction))|skip))
theorem Hn (b:List Rg) (hb:b.length≤1000000000):aq ctx 97 [aa b] (.bool (bp b)):=by
 unfold bp;have f1:=bJ b;refine an (C:=ctx) (Fn.of Ib rfl) rfl ?_;unfold HQ;repeat' (first|((with_reducible first|show az _|show aB _);simp[vb]<;>omega)|exact(rfl:some _=_)|((fail_if_success refine aK ?_);refine bG ?_;(repeat1' dsimp only[HQ,aa,go_sem]);first|refine aL ?_ ?_ rfl ?_|apply aM|apply aN|(refine aO (fun hc=>?_) fun hc=>?_<;>first|(cases hc;done)|(exfalso;simp at hc<;>omega)|(try simp only[bn]at hc;try contradiction))|skip))
 refine a7 b.length (fun k=>(b.take k).all kW=true) (fun k=>[(0,.pv (aa b)),(5,.pv (aa b)),(6,.pv (.int .i64 b.length)),(7,.pv (.int .i64 k))]) (fun _=>[]) rfl (by (repeat' (first|exact trivial|refine And.intro (by first|rfl|(simp[get,Nat.beq]<;>omega)|(dsimp only[get];congr 1<;>first|rfl|omega|(simp<;>omega))) ?_))) ⟨[],rfl⟩ (fun _=>⟨Nat.zero_le _,rfl,rfl⟩) fun k hk hP=>?_
 by_cases hlt:k<b.length
 ·have e:=bQ ia b k zr hlt;have h1:=eB kW b k zr hlt;have h2:=lZ kW b k zr hlt;rw[h1,hP,Bool.true_and];clear h1;generalize b.getD k zr=x at *;repeat' (first|((with_reducible show az _);first|exact True.intro|(simp only[vb,lb,e,f1,hlt,bS];and_intros<;>first|omega|(simp<;>omega)))|((with_reducible show aB _);first|exact True.intro|((try dsimp only[go_sem]);(simp[vb,e,f1,hlt,bS]<;>omega)))|exact(rfl:some _=_)|((fail_if_success refine aK ?_);refine bw [ξ 10 (.agg [.int .i64 x.lo,.int .i64 x.hi])] ?_;(repeat1' dsimp only[HQ,aa,go_sem]);first|refine aL ?_ ?_ rfl ?_|apply aM|apply aN|(refine aO (fun hc=>?_) fun hc=>?_<;>first|(cases hc;done)|(exfalso;(simp at hc<;>omega))|(try simp only[bn]at hc;try contradiction))|skip))
  all_goals first
   |(rw[h2 (by
     cases h:kW x with
     |false=>rfl
     |true =>
      exfalso;simp only[kW,aC,Bool.and_eq_true,decide_eq_true_eq]at h;omega),Bool.false_and];done)
   |(
    refine⟨hlt,?_,by (repeat' (first|exact trivial|refine And.intro (by first|rfl|(simp[get,Nat.beq]<;>omega)|(dsimp only[get];congr 1<;>first|rfl|omega|(simp<;>omega))) ?_)),_,rfl⟩;simp only[kW,aC,Bool.and_eq_true,decide_eq_true_eq];omega)
 obtain rfl:k=b.length:=by omega
 rw[List.take_length]at hP;repeat' (first|((with_reducible show az _);exact True.intro)|((with_reducible show aB _);exact True.intro)|exact(rfl:some _=_)|((fail_if_success refine aK ?_);refine bG ?_;(repeat1' dsimp only[HQ,aa,go_sem]);first|refine aL ?_ ?_ rfl ?_|apply aM|apply aN|(refine aO (fun hc=>?_) fun hc=>?_<;>first|(cases hc;done)|(exfalso;(simp at hc<;>omega))|(try simp only[bn]at hc;try contradiction))|skip))
 rw[hP,Bool.true_and];simp;omega
theorem Fy (n : Int) (r : Rw) (hr : r.terms.length ≤ 1000000000) : aq ctx 100 [.int .i64 n, .agg [ar r.terms, .int .i64 r.bound]] (.bool (cN n r)) := by
  obtain ⟨ts, bd⟩ := r
  unfold cN
  simp only at hr ⊢
  generalize hq : dM n (-1) ts = q
  have f1 := fG ts
  refine an (C := ctx) (Fn.of GH rfl) rfl ?_
  unfold BO
  repeat' (first
    | ((with_reducible first | show az _ | show aB _); simp [vb] <;> omega)
    | exact (rfl : some _ = _)
    | (
      fail_if_success refine aK ?_
      refine bG ?_
      repeat1' dsimp only [BO, ar, go_sem]
      first
      | refine aL ?_ ?_ rfl ?_
      | apply aM
      | apply aN
      | (refine aO (fun hc => ?_) fun hc => ?_ <;> first | (cases hc; done) | (exfalso; simp at hc <;> omega) | (try simp only [bn] at hc; try contradiction))
      | skip))
  refine dD (σ := Nat × Int) (fun s => s.1 ≤ ts.length ∧ dM n s.2 (ts.drop s.1) = q) (fun s => [(0, .pv (.int .i64 n)), (3, .ptr 0 0 0), (5, .pv (.int .i64 s.2)), (9, .pv (ar ts)), (10, .pv (.int .i64 ts.length)), (11, .pv (.int .i64 s.1))]) (fun _ => [⟨[.pv (ar ts), .pv (.int .i64 bd)], 0, 2, 62, false⟩]) (fun s => ts.length - s.1) (0, -1) ⟨Nat.zero_le _, hq⟩ (by (repeat' (first | exact trivial | refine And.intro (by first | rfl | (simp [get, Nat.beq]; done) | (simp [get, Nat.beq]; omega) | (dsimp only [get]; congr 1 <;> first | rfl | omega | (simp; done) | (simp; omega))) ?_))) ⟨[], rfl⟩ (fun _ _ => ⟨Nat.zero_le _, rfl, rfl⟩) fun s hP => ?_
  obtain ⟨k, last⟩ := s
  obtain ⟨p1, p2⟩ := hP
  simp only at p1 p2
  by_cases hlt : k < ts.length
  · have e := bQ kO ts k zm hlt
    rw [dR ts k zm hlt, dM] at p2
    generalize ts.getD k zm = x at *
    generalize hq2 : dM n x.cell (ts.drop (k + 1)) = q2 at *
    repeat' (first
      | ((with_reducible show az _); first | exact True.intro | (simp only [vb, lb, e, f1, hlt, gZ]; and_intros <;> first | omega | (simp <;> omega)))
      | ((with_reducible show aB _); first | exact True.intro | ((try dsimp only [go_sem]); (simp [vb, e, f1, hlt, gZ] <;> omega)))
      | exact (rfl : some _ = _)
      | (
        fail_if_success refine aK ?_
        refine bw [ξ 14 (.agg [.int .i64 x.cell, .int .i64 x.fac])] ?_
        repeat1' dsimp only [BO, ar, go_sem]
        first
        | refine aL ?_ ?_ rfl ?_
        | apply aM
        | apply aN
        | (refine aO (fun hc => ?_) fun hc => ?_ <;> first | (cases hc; done) | (exfalso; (simp at hc <;> omega)) | (try simp only [bn] at hc; try contradiction))
        | skip))
    all_goals first
      | (rw [← p2, show (decide (last < x.cell) && decide (x.cell < n) && decide (x.fac ≠ 0) && aC x.fac (-1000) 1000) = false from by
          rw [Bool.eq_false_iff]
          simp only [aC, ne_eq, Bool.and_eq_true, decide_eq_true_eq]
          omega]; rfl)
      | (
        refine ⟨(k + 1, x.cell), by show ts.length - (k + 1) < ts.length - k; omega, ⟨by show k + 1 ≤ _; omega, ?_⟩, by (repeat' (first | exact trivial | refine And.intro (by first | rfl | (simp [get, Nat.beq]; done) | (simp [get, Nat.beq]; omega) | (dsimp only [get]; congr 1 <;> first | rfl | omega | (simp; done) | (simp; omega))) ?_)), _, rfl⟩
        show dM n x.cell (ts.drop (k + 1)) = q
        rw [hq2, ← p2, show (decide (last < x.cell) && decide (x.cell < n) && decide (x.fac ≠ 0) && aC x.fac (-1000) 1000) = true from by
         simp only [aC, ne_eq, Bool.and_eq_true, decide_eq_true_eq]
         omega, Bool.true_and])
  obtain rfl : k = ts.length := by omega
  rw [List.drop_length, dM] at p2
  subst p2
  repeat' (first
    | ((with_reducible show az _); first | exact True.intro | (simp only [vb, lb, hlt]; and_intros <;> first | omega | (simp <;> omega)))
    | ((with_reducible show aB _); first | exact True.intro | ((try dsimp only [go_sem]); (simp [vb, hlt] <;> omega)))
    | exact (rfl : some _ = _)
    | (
      fail_if_success refine aK ?_
      refine bG ?_
      repeat1' dsimp only [BO, ar, go_sem]
      first
      | refine aL ?_ ?_ rfl ?_
      | apply aM
      | apply aN
      | (refine aO (fun hc => ?_) fun hc => ?_ <;> first | (cases hc; done) | (exfalso; (simp at hc <;> omega)) | (try simp only [bn] at hc; try contradiction))
      | skip))
  all_goals simp [aC]
theorem B3 (b:List Rg) (r:Rw) (hr:r.terms.length≤1000000000):aF ctx 99 [.pv (.agg [ar r.terms,.int .i64 r.bound]),.ptr 0 0 0] [⟨[.pv (aa b)],0,1,31,false⟩] (.pv (.bool (!cN b.length r))) [⟨[.pv (aa b)],0,1,31,false⟩]:=by
 have hx:=Fy b.length r hr;generalize cN b.length r=q at *;unfold ar at hx;refine bc (C:=ctx) (Fn.of Ie rfl) rfl (by simp) rfl rfl ?_;unfold IQ;repeat' (first|((with_reducible first|show az _|show aB _);simp[vb,hx]<;>omega)|exact(rfl:some _=_)|((fail_if_success refine aK ?_);refine bw [ξ 7 (.bool q)] ?_;(repeat1' dsimp only[IQ,aa,ar,go_sem]);first|refine aL ?_ ?_ rfl ?_|apply aM|apply aN|(refine aO (fun hc=>?_) fun hc=>?_<;>first|(cases hc;done)|(exfalso;simp[hx]at hc<;>omega)|(try simp only[bn]at hc;try contradiction))|skip))
 exact⟨⟨trivial,rfl⟩,_,rfl⟩
theorem sY (b:List Rg) (l:List Rw) (hb:b.length≤1000000000) (hl:l.length≤1000000000) (ht:∀r∈l,r.terms.length≤1000000000):aq ctx 71 [aa b,ae l] (.bool (dN b l)):=by
 have h1:=Hn b hb;have h2:=DD 99 [⟨[.pv (aa b)],0,1,31,false⟩] rfl 0 (by simp) l hl (fun r=>!cN b.length r) fun r hr=>B3 b r (ht r hr)
 unfold dN;have e:l.all (cN b.length)= !(l.any fun r=>!cN b.length r):=by simp[List.any_eq_not_all_not]
 rw[e];clear e;generalize (l.any fun r=>!cN b.length r)=q at *;generalize bp b=q2 at *;unfold aa ae at h2;unfold aa at h1;cases q2 with
 |false =>
  refine an (C:=ctx) (Fn.of Hl rfl) rfl ?_;unfold IL;refine du [(97,fun _=>some (.bool false))] ?_;dsimp only[aa,ae,go_sem];try dsimp only[aa,ae,go_sem]
  refine⟨(by simp[vb,h1]<;>omega),(by simp[vb,h1]<;>omega),?_⟩;refine eE (nN (T:=[(97,fun _=>some (.bool false))]) (H:=[]) ?_);dsimp only[aa,ae,go_sem];try dsimp only[aa,ae,go_sem]
  refine⟨(by simp[vb,h1]<;>omega),(by simp[vb,h1]<;>omega),?_⟩;refine du [(97,fun _=>some (.bool false))] ?_;dsimp only[aa,ae,go_sem];exact⟨trivial,rfl⟩
 |true =>
  refine an (C:=ctx) (Fn.of Hl rfl) rfl ?_;unfold IL;refine aV [(97,fun _=>some (.bool true))] [(10,{val:=some (.pv (.bool q)),ro:=true})] ?_;dsimp only[aa,ae,go_sem];try dsimp only[aa,ae,go_sem]
  refine⟨(by simp[vb,h1,h2]<;>omega),(by simp[vb,h1,h2]<;>omega),?_⟩;refine eE (nN (T:=[(97,fun _=>some (.bool true))]) (H:=[(10,{val:=some (.pv (.bool q)),ro:=true})]) ?_);dsimp only[aa,ae,go_sem];try dsimp only[aa,ae,go_sem]
  refine⟨(by simp[vb,h1,h2]<;>omega),(by simp[vb,h1,h2]<;>omega),?_⟩;refine aV [(97,fun _=>some (.bool true))] [(10,{val:=some (.pv (.bool q)),ro:=true})] ?_;dsimp only[aa,ae,go_sem];exact⟨trivial,rfl⟩
theorem B4 (b:List Rg) (hb:b.length≤1000000000):aq ctx 71 [aa b,.nilsl] (.bool (bp b)):=by
 have h:=sY b [] hb (by simp) (by simp);rw[show dN b []=bp b by simp[dN]]at h;refine aq.oy 1 ?_;have e:∀l:List PV,l.map (canon 0)=l:=fun l=>by rw[show canon 0=id from funext fun _=>by simp[canon]];simp
 simpa [canon,aa,ae,e]using h
end
section
open Rf
def vG (l:List Int):eN:=⟨(l.flatMap aI).map .pv,1,1,3,false⟩
theorem Fz (k:Nat) (cells:List PV) (hk:k≤1000000000) (hc:cells.length=(k+1)*1):aF ctx 167 [.pv (.sl (k+1) cells)] [] (.ref 0 1 0 (k+1)) [⟨cells.map .pv,1,1,3,false⟩]:=by
 refine bc (C:=ctx) (Fn.of GS rfl) rfl (by simp) rfl (by simp[aS,cZ]) ?_;unfold c167;iterate 9 first
  |refine⟨fun h=>by simp at h<;>omega,fun _=>?_⟩
  |refine⟨by simp[vb]<;>omega,by simp[vb]<;>omega,?_⟩
  |(refine bw [(7,{mode:=1})] ?_;iterate 2 (try dsimp only[go_sem]))
 refine bG ?_;dsimp only[go_sem];exact⟨⟨trivial,by simp⟩,[],rfl⟩
theorem Ho (l:List Int) (h0:l≠[]) (hl:l.length≤1000000000) (μ:AM):aF ctx 167 [.pv (.sl l.length (l.flatMap aI))] μ (.ref μ.length 1 0 l.length) (μ++[vG l]):=by
 cases l with
 |nil=>exact absurd rfl h0
 |cons x r =>
  have h:=Fz r.length ((x::r).flatMap aI) (by simp at hl;omega) (by rw[cO];rfl);have:=h.frame [] μ (by simp) (by simp) trivial rfl (by simp[cZ]) (by simp);have he:∀cs:List PV,(cs.map AV.pv).map (nh [] μ.length 3)=cs.map AV.pv:=fun cs=>by simp[nh,Function.comp_def]
  simpa [nh,nV,uq,pL,vG,he,Function.comp_def]using this
theorem DH (n:Nat) (es:List Bool) (a b:Nat) (hlen:es.length=n*n) (ha:a<n) (hb:b<n):(es.flatMap dP)[a*n+b]?.getD default= .bool (bE n es a b):=by
 have hlt:a*n+b<es.length:=by
  rw[hlen];calc a*n+b<a*n+n:=by omega
   _=(a+1)*n:=by rw[Nat.add_mul,Nat.one_mul]
   _≤n*n:=Nat.mul_le_mul_right _ ha
 rw[iP (g:=dP) (fun _=>rfl) es _ false default hlt];rfl
theorem Hp (n:Nat) (es:List Bool) (a b:Nat) (hlen:es.length=n*n) (hn:n≤6) (ha:a<n) (hb:b<n) :
  aq ctx 166 [.agg [.int .i64 n,bC es],.int .i64 a,.int .i64 b] (.bool (bE n es a b)):=by
 have e:=DH n es a b hlen ha hb;have f1:=fH es;generalize bE n es a b=q at *;have hlt:a*n+b<es.length:=by
  rw[hlen];calc a*n+b<a*n+n:=by omega
   _=(a+1)*n:=by rw[Nat.add_mul,Nat.one_mul]
   _≤n*n:=Nat.mul_le_mul_right _ ha
 have hm:a*n≤36:=by
  have:=Nat.mul_le_mul (show a≤6 by omega) hn;omega
 have ez:((a:Int)*(n:Int)+(b:Int))=((a*n+b:Nat):Int):=by simp
 have ez2:((a:Int)*(n:Int))=((a*n:Nat):Int):=by simp
 generalize a*n=m at *;refine an (C:=ctx) (Fn.of GR rfl) rfl ?_;unfold Fv;repeat' (first|((with_reducible show az _);first|exact True.intro|(simp only[vb,lb,e,f1,hlt,ez,ez2];and_intros<;>first|omega|(simp<;>omega)))|((with_reducible show aB _);first|exact True.intro|((try dsimp only[go_sem]);(simp only[vb,and_true,true_implies];(repeat' (first|(with_reducible assumption)|(with_reducible apply And.intro)|intro _|((fail_if_success (with_reducible show(_:Int)≤_));assumption)))<;>first|rfl|(simp only[ab,e,f1,hlt,ez,ez2];done))))|exact(rfl:some _=_)|((fail_if_success refine aK ?_);refine bw [ξ 12 (.int .i64 m),ξ 14 (.int .i64 (m+b:Nat)),ξ 16 (.bool q)] ?_;(repeat1' dsimp only[Fv,bC,go_sem]);first|refine aL ?_ ?_ rfl ?_|apply aM|apply aN|(refine aO (fun hc=>?_) fun hc=>?_<;>first|(cases hc;done)|(try simp only[bn]at hc;try contradiction))|skip))
end
section
open Rf
def DI:Nat→Bool:=fun d=>Nat.beq d 20||Nat.beq d 64
def GU:av:=(⟨_,by conv=>(lhs;reduce;try simp only[G4,Int.cast_ofNat_Int,Int.reduceNegSucc,UInt8.reduceOfNat])⟩:{x // codeOf Tryz.prog 146 DI=some x}).1
theorem Hq:bo Tryz.prog 146 DI=some (GU,[.t 6],67,true):=by kernel_rfl
def nu (n:Nat) (es:List Bool):eN:=⟨[.pv (.int .i64 n),.pv (bC es)],0,2,187,false⟩
def kx (s:List Bool):eN:=⟨(s.flatMap dP).map .pv,0,1,4,false⟩
def fL (l:List (List Int)):List PV:=l.map au
def nv (l:List (List Int)) (g:Nat):eN:=⟨(fL l).map .pv,g,1,49,false⟩
def zE:List Int→PV
 |[]=>.nilsl
 |x::r=>au (x::r)
theorem FA {l:List Int} (h:l≠[]):zE l=au l:=by
 cases l with
 |nil=>exact absurd rfl h
 |cons x r=>rfl
theorem B5 (l:List Int) (h:l≠[]):∃m u,l=m++[u]:=⟨l.dropLast,l.getLast h,(List.dropLast_concat_getLast h).symm⟩
theorem nw (s:List Bool):s.flatMap dP=s.map PV.bool:=by
 induction s with
 |nil=>rfl
 |cons b r ih=>rw[List.flatMap_cons,ih];rfl
theorem xP (s:List Bool) (k:Nat):setAt ((s.flatMap dP).map AV.pv) k [.pv (.bool true)]=((s.set k true).flatMap dP).map AV.pv:=by
 rw[nw,nw,setAt,setAt,List.map_set,List.map_set]
theorem oE:∀n:Nat,dO [.bool false] n=(List.replicate n false).flatMap dP
 |0=>rfl
 |n+1=>by rw[dO,oE n,List.replicate_succ,List.flatMap_cons];rfl
theorem FB (s:List Bool) (k:Nat) (hk:k<s.length):(s.flatMap dP)[k]?=some (.bool (s.getD k false)):=by
 rw[nw,List.getElem?_map,List.getElem?_eq_getElem hk,List.getD,List.getElem?_eq_getElem hk];rfl
theorem FC (pre:List (List Int)) (l:List Int) (r:List (List Int)):((fL (pre++l::r)).map AV.pv)[pre.length]?.getD .any= .pv (au l):=by
 simp[fL]
theorem FD (m:List Int) (u:Int):((m++[u]).flatMap aI)[m.length]?.getD default= .int .i64 u:=by
 rw[iP (g:=aI) (fun _=>rfl) (m++[u]) m.length 0 default (by simp)];simp
theorem Hr (ay:List Nat) (l:List PV):(l.map AV.pv).map (dx ay 3)=l.map AV.pv:=by
 simp[dx,Function.comp_def]
theorem uF {own:Nat→Bool} {nn:Nat} {x:av} {R:Exit→AF→AM→Prop} {f:AF} {b0 b1 b4:eN} {p0 p1 cs ps:List PV} {g g3 k:Nat} {e e3:TypeId} (h0:b0.cells=p0.map .pv) (h1:b1.cells=p1.map .pv) (hl:ps.length=k)
  (hr:gu [0,1,2,3] f=f) (hs:∀M,iW M 3 f=f) (ho:cu f 3=true)
  (h:Aw ctx own nn 0 x R f [b0,b1,⟨cs.map .pv++[.pv (.sl k ps)],g,1,e,false⟩]):Aw ctx own nn 0 x R f [b0,b1,⟨cs.map .pv++[.ref 3 g3 0 k],g,1,e,false⟩,⟨ps.map .pv,g3,1,e3,false⟩,b4]:=by
 refine iM [0,1,2,3] rfl ?_;rw[hr];have hm:gW [0,1,2,3] [b0,b1,⟨cs.map .pv++[.ref 3 g3 0 k],g,1,e,false⟩,⟨ps.map .pv,g3,1,e3,false⟩,b4]=[b0,b1,⟨cs.map .pv++[.ref 3 g3 0 k],g,1,e,false⟩,⟨ps.map .pv,g3,1,e3,false⟩]:=by
  obtain⟨a0,a1,a2,a3,a4⟩:=b0;obtain⟨d0,d1,d2,d3,d4⟩:=b1;simp only at h0 h1;subst h0 h1;simp[gW,gy,dx,idxOf,Function.comp_def];rfl
 rw[hm];have hk:aS [b0,b1] 2=true:=by simp[aS,h0,h1,cZ]
 exact eH (μ:=[b0,b1]) (c1:=cs) (c2:=[]) hk (Nat.zero_le _) (by simp) (by omega) hs ho h
theorem DJ (n:Nat) (es:List Bool) (fr tg:Nat) (hlen:es.length=n*n) (hn:n≤6) (hf:fr<n) (ht:tg<n) :
  aq ctx 146 [.agg [.int .i64 n,bC es],.int .i64 fr,.int .i64 tg] (zE (pn n (bE n es) tg (n+2) [[(fr:Int)]] (jA n fr))):=by
 generalize hres:pn n (bE n es) tg (n+2) [[(fr:Int)]] (jA n fr)=res;have hb0:=uC (e:=bE n es) hf;have hz:=oE n;have hzl:(dO [.bool false] n).length=n:=by rw[hz,fH];simp
 refine an (C:=ctx) (Fn.of Hq rfl) rfl ?_;unfold GU;repeat' (first|((with_reducible first|show az _|show aB _);simp[vb,hf,hzl]<;>omega)|exact(rfl:some _=_)|((fail_if_success refine aK ?_);refine bG ?_;(repeat1' dsimp only[c146,bC,go_sem]);first|refine aL ?_ ?_ rfl ?_|apply aM|apply aN|(refine aO (fun hc=>?_) fun hc=>?_<;>first|(cases hc;done)|(exfalso;simp[hf,hzl]at hc<;>omega)|(try simp only[bn]at hc;try contradiction))|skip))
 refine dD (σ:=List (List Int)×List (List Int)×List Bool×Nat×Nat)
  (fun s=>Hj n (bE n es) fr s.2.1 s.2.2.1∧s.1.length+s.2.1.length+eI s.2.2.1≤n+1∧pn n (bE n es) tg s.2.2.2.2 s.2.1 s.2.2.1=res∧s.2.1.length+eI s.2.2.1<s.2.2.2.2)
  (fun s=>[(2,.pv (.int .i64 tg)),(3,.ptr 0 0 0),(7,.ref 1 0 0 n),(8,.ref 2 s.2.2.2.1 s.1.length s.2.1.length)])
  (fun s=>[nu n es,kx s.2.2.1,nv (s.1++s.2.1) s.2.2.2.1]) (fun s=>s.2.1.length+eI s.2.2.1) ([],[[(fr:Int)]],jA n fr,0,n+2) ⟨hb0,?_,hres,?_⟩ (by (repeat' (first|exact trivial|refine And.intro (by first|rfl|(simp[get,Nat.beq]<;>omega)|(dsimp only[get];congr 1<;>first|rfl|omega|(simp<;>omega))) ?_))) ?_ (fun s _=>⟨Nat.zero_le _,rfl,by simp[aS,nu,kx,nv,cZ]⟩) fun s hP=>?_
 ·have:=(hb0.ne [(fr:Int)] (by simp)).2.2.2.2;simp at this ⊢;omega
 ·have:=(hb0.ne [(fr:Int)] (by simp)).2.2.2.2;simp at this ⊢;omega
 ·refine⟨[],?_⟩;simp[nu,kx,nv,fL,jA,←xP,setAt,hz,au,aI,bC]
 obtain⟨pre,q,seen,g,f⟩:=s;obtain⟨p1,p2,p3,p4⟩:=hP;simp only at p1 p2 p3 p4 ⊢;cases q with
 |nil =>
  cases f with
  |zero=>omega
  |succ f =>
   rw[pn]at p3;subst p3;repeat' (first|((with_reducible first|show az _|show aB _);simp[vb]<;>omega)|exact(rfl:some _=_)|((fail_if_success refine aK ?_);refine bG ?_;(repeat1' dsimp only[c146,zE,go_sem]);first|refine aL ?_ ?_ rfl ?_|apply aM|apply aN|(refine aO (fun hc=>?_) fun hc=>?_<;>first|(cases hc;done)|(exfalso;simp at hc<;>omega)|(try simp only[bn]at hc;try contradiction))|skip))
 |cons l r =>
  cases f with
  |zero=>omega
  |succ f =>
   obtain⟨q1,q2,q3,q4,q5⟩:=p1.ne l (by simp);obtain⟨m,u',rfl⟩:=B5 l q1;obtain⟨u,rfl⟩:∃u:Nat,u'=(u:Int):=⟨u'.toNat,by simp at q2;omega⟩
   obtain⟨hu,-⟩:=qn m u;have e1:=FC pre (m++[(u:Int)]) r;have e2:=FD m (u:Int);have f1:=cO (m++[(u:Int)]);rw[pn,hu]at p3;rw[hu]at q3 q4;have hml:m.length≤7:=by simp at q5;omega
   by_cases hut:u=tg
   ·rw[if_pos hut]at p3;subst hut p3;repeat' (first|((with_reducible show az _);first|exact True.intro|(simp only[vb,lb,e1,e2,f1,au,fL];and_intros<;>first|omega|(simp<;>omega)))|((with_reducible show aB _);first|exact True.intro|((try dsimp only[go_sem]);first|(simp[vb,e1,e2,f1,au,fL]<;>omega)|(simp only[vb,and_true,true_implies];(repeat' (first|(with_reducible assumption)|(with_reducible apply And.intro)|intro _|((fail_if_success (with_reducible show(_:Int)≤_));assumption)))<;>(simp_all;done))))|exact(rfl:some _=_)|((fail_if_success refine aK ?_);refine bw [ξ 28 (.sl (m++[(u:Int)]).length ((m++[(u:Int)]).flatMap aI)),ξ 34 (.int .i64 u)] ?_;(repeat1' dsimp only[c146,nu,nv,au,go_sem]);first|refine aL ?_ ?_ rfl ?_|apply aM|apply aN|(refine aO (fun hc=>?_) fun hc=>?_<;>first|(cases hc;done)|(exfalso;(simp at hc<;>omega))|(try simp only[bn]at hc;try contradiction))|skip))
    rw[FA q1];rfl
   rw[if_neg hut]at p3;repeat' (first|((with_reducible show az _);first|exact True.intro|(simp only[vb,lb,e1,e2,f1,au,fL];and_intros<;>first|omega|(simp<;>omega)))|((with_reducible show aB _);first|exact True.intro|((try dsimp only[go_sem]);first|(simp[vb,e1,e2,f1,au,fL]<;>omega)|(simp only[vb,and_true,true_implies];(repeat' (first|(with_reducible assumption)|(with_reducible apply And.intro)|intro _|((fail_if_success (with_reducible show(_:Int)≤_));assumption)))<;>(simp_all;done))))|exact(rfl:some _=_)|((fail_if_success refine aK ?_);refine bw [ξ 28 (.sl (m++[(u:Int)]).length ((m++[(u:Int)]).flatMap aI)),ξ 34 (.int .i64 u)] ?_;(repeat1' dsimp only[c146,nu,nv,au,go_sem]);first|refine aL ?_ ?_ rfl ?_|apply aM|apply aN|(refine aO (fun hc=>?_) fun hc=>?_<;>first|(cases hc;done)|(exfalso;(simp at hc<;>omega))|(try simp only[bn]at hc;try contradiction))|skip))
   have hLl:(m++[(u:Int)]).length≤8:=by simp;omega
   have hX:=fun k hk=>sS p1 (l:=m++[(u:Int)]) (by simp) k hk
   rw[hu]at hX;clear e1 e2 q2 q4 hml hres hb0 hz hzl;generalize m++[(u:Int)]=L at *;have hX1:=fun k=>uA k (bE n es) L u (L::r) seen
   have hX0:l7 0 (bE n es) L u (L::r) seen=(L::r,seen):=rfl;generalize hXX:(fun k=>l7 k (bE n es) L u (L::r) seen)=X;have hXe:∀k,l7 k (bE n es) L u (L::r) seen=X k:=fun k=>by rw[←hXX]
   simp only[hXe]at hX hX1 hX0 p3;clear hXe hXX;refine dD (σ:=Nat×List (List Int)×Nat) (fun s=>s.1≤n∧s.2.1.length+(X s.1).1.length+eI (X s.1).2≤n+1)
    (fun s=>[(2,.pv (.int .i64 tg)),(3,.ptr 0 0 0),(7,.ref 1 0 0 n),(8,.ref 2 s.2.2 s.2.1.length (X s.1).1.length),(9,.pv (.sl L.length (L.flatMap aI))),(10,.pv (.int .i64 u)),(40,.pv (.int .i64 n)),(41,.pv (.int .i64 s.1))])
    (fun s=>[nu n es,kx (X s.1).2,nv (s.2.1++(X s.1).1) s.2.2]) (fun s=>n-s.1) (0,pre,g) ⟨Nat.zero_le _,by simp only[hX0];exact p2⟩ (by simp only[hX0];(repeat' (first|exact trivial|refine And.intro (by first|rfl|(simp[get,Nat.beq]<;>omega)|(dsimp only[get];congr 1<;>first|rfl|omega|(simp<;>omega))) ?_))) ⟨[],by simp only[hX0];rfl⟩ (fun s _=>⟨Nat.zero_le _,rfl,by simp[aS,nu,kx,nv,cZ]⟩) fun s hP=>?_
   obtain⟨k,pre,g⟩:=s;obtain⟨t1,t2⟩:=hP;simp only at t1 t2 ⊢;obtain⟨b1,b2,⟨mm,b3⟩,-,-,-⟩:=hX k t1;have hxl:=b1.len;by_cases hlt:k<n
   ·have hs1:=hX1 k;have hha:=Hp n es u k hlen hn q3 hlt;have hsa:=FB (X k).2 k (by omega);have hse:=xP (X k).2 k;have f3:=fH (X k).2;have hsd:(X k).2.getD k true=(X k).2.getD k false:=by rw[List.getD,List.getD,List.getElem?_eq_getElem (by omega)];rfl
    unfold qm at hs1;rw[hsd]at hs1;generalize hsb:(X k).2.getD k false=sb at *;generalize bE n es u k=eb at *;have same:X (k+1)=X k→∃s',n-s'.1<n-k∧(s'.1≤n∧s'.2.1.length+(X s'.1).1.length+eI (X s'.1).2≤n+1)∧s'=(k+1,pre,g):=fun h=>⟨(k+1,pre,g),by show n-(k+1)<n-k;omega,⟨by show k+1≤n;omega,by show pre.length+(X (k+1)).1.length+_≤_;rw[h];exact t2⟩,rfl⟩
    unfold bC at hha;cases eb with
    |false =>
     have hs2:X (k+1)=X k:=by rw[hs1];simp
     obtain⟨s',w1,w2,rfl⟩:=same hs2;repeat' (first|((with_reducible show az _);first|exact True.intro|(simp only[vb,lb,hha,hlt,hxl,f3];and_intros<;>first|omega|(simp<;>omega)))|((with_reducible show aB _);first|exact True.intro|((try dsimp only[go_sem]);(simp[vb,hha,hlt,hxl,f3]<;>omega)))|exact(rfl:some _=_)|((fail_if_success refine aK ?_);refine aV [(166,fun _=>some (.bool false))] [ξ 52 (.bool false)] ?_;(repeat1' dsimp only[c146,nu,kx,bC,go_sem]);first|refine aL ?_ ?_ rfl ?_|apply aM|apply aN|(refine aO (fun hc=>?_) fun hc=>?_<;>first|(cases hc;done)|(exfalso;(simp at hc<;>omega))|(try simp only[bn]at hc;try contradiction))|skip))
     exact⟨_,w1,w2,by simp only[hs2];(repeat' (first|exact trivial|refine And.intro (by first|rfl|(simp[get,Nat.beq]<;>omega)|(dsimp only[get];congr 1<;>first|rfl|omega|(simp<;>omega))) ?_)),[],by simp only[hs2]<;>rfl⟩
    |true =>
     cases sb with
     |true =>
      have hs2:X (k+1)=X k:=by rw[hs1];simp
      obtain⟨s',w1,w2,rfl⟩:=same hs2;repeat' (first|((with_reducible show az _);first|exact True.intro|(simp only[vb,lb,hha,hlt,hsa,hxl,f3];and_intros<;>first|omega|(simp<;>omega)))|((with_reducible show aB _);first|exact True.intro|((try dsimp only[go_sem]);(simp only[vb,and_true,true_implies];(repeat' (first|(with_reducible assumption)|(with_reducible apply And.intro)|intro _|((fail_if_success (with_reducible show(_:Int)≤_));assumption)))<;>first|omega|(simp only[ab,hha,hlt,hsa,hxl,f3];done)|(simp[Nat.mul_one,hha,hlt,hsa,hxl,f3]<;>omega)|(simp_all;done))))|exact(rfl:some _=_)|((fail_if_success refine aK ?_);refine aV [(166,fun _=>some (.bool true))] [ξ 52 (.bool true)] ?_;(repeat1' dsimp only[c146,nu,kx,bC,go_sem]);first|refine aL ?_ ?_ rfl ?_|apply aM|apply aN|(refine aO (fun hc=>?_) fun hc=>?_<;>first|(cases hc;done)|(exfalso;(simp at hc<;>omega))|(try simp only[bn]at hc;try contradiction))|skip))
      exact⟨_,w1,w2,by simp only[hs2];(repeat' (first|exact trivial|refine And.intro (by first|rfl|(simp[get,Nat.beq]<;>omega)|(dsimp only[get];congr 1<;>first|rfl|omega|(simp<;>omega))) ?_)),[],by simp only[hs2]<;>rfl⟩
     |false =>
      iterate 7 first
       |refine⟨fun _=>?_,fun h=>by simp at h<;>omega⟩
       |refine⟨by simp[vb,hha,hlt,hsa,hxl,f3]<;>omega,by simp[vb,hha,hlt,hsa,hxl,f3]<;>omega,?_⟩
       |(refine aV [(166,fun _=>some (.bool true))] [ξ 52 (.bool false)] ?_;iterate 2 (try dsimp only[nu,kx,bC,go_sem]))
      refine eE (nN (T:=[(166,fun _=>some (.bool true))]) (H:=[ξ 52 (.bool false)]) ?_);dsimp only[nu,kx,bC,go_sem];try dsimp only[nu,kx,bC,go_sem]
      refine⟨(by (simp only[vb,lb,hha,hlt,hsa,hxl,f3];and_intros<;>first|omega|(simp<;>omega))),(by ((try dsimp only[go_sem]);(simp only[vb,and_true,true_implies];(repeat' (first|(with_reducible assumption)|(with_reducible apply And.intro)|intro _|((fail_if_success (with_reducible show(_:Int)≤_));assumption)))<;>(simp_all;done)))),?_⟩;refine aV [(166,fun _=>some (.bool true))] [ξ 52 (.bool false)] ?_;dsimp only[nu,kx,bC,go_sem];refine⟨fun _=>?_,fun h=>by simp at h<;>omega⟩;refine aV [(166,fun _=>some (.bool true))] [ξ 52 (.bool false)] ?_
      dsimp only[nu,kx,bC,go_sem];try dsimp only[nu,kx,bC,go_sem]
      refine⟨(by (simp only[vb,lb,hha,hlt,hsa,hxl,f3];and_intros<;>first|omega|(simp<;>omega))),(by exact True.intro),?_⟩;have hcl:=fun μ=>Ho L q1 (by omega) μ
      rw[show(((X k).2.flatMap dP).map AV.pv).set (0+(k:Int).toNat*1) (.pv (.bool true))=(((X k).2.set k true).flatMap dP).map AV.pv from by rw[←hse];simp[setAt]];refine C3 7 false [(2,{val:=some (.ref 3 1 0 L.length),mem:=some ([⟨[.pv (.int .i64 n),.pv (.sl es.length (es.flatMap dP))],0,2,187,false⟩,⟨(((X k).2.set k true).flatMap dP).map .pv,0,1,4,false⟩,nv (pre++(X k).1) g]++[vG L])}),(5,{mode:=1})] [] ?_;iterate 3 (try dsimp only[vt,nv,vG,go_sem])
      have hls:∀l:List (List Int),(fL l).length=l.length:=fun l=>by simp[fL]
      have hxk:X (k+1)=((X k).1++[L++[(k:Int)]],(X k).2.set k true):=by rw[hs1];simp
      have hun:=ku (X k).2 k hsd;have fin:∀(pre':List (List Int)),pre'.length≤pre.length→∃s',n-s'.1<n-k∧(s'.1≤n∧s'.2.1.length+(X s'.1).1.length+eI (X s'.1).2≤n+1)∧s'=(k+1,pre',g+1):=fun pre' h=>⟨(k+1,pre',g+1),by show n-(k+1)<n-k;omega,⟨by show k+1≤n;omega,by show pre'.length+(X (k+1)).1.length+eI (X (k+1)).2≤n+1;rw[hxk];simp;omega⟩,rfl⟩
      have hps:(L.flatMap aI).map AV.pv++[.pv (.int .i64 k)]=((L++[(k:Int)]).flatMap aI).map AV.pv:=by simp[aI]
      rw[hps];have hcs:∀pre':List (List Int),(fL (pre'++(X k).1)).map AV.pv++[.pv (.sl (L.length+1) ((L++[(k:Int)]).flatMap aI))]=(fL (pre'++(X (k+1)).1)).map AV.pv:=fun pre'=>by rw[hxk];simp[fL,au]
      have c1:pre.length+(X k).1.length*1=((fL (pre++(X k).1)).map AV.pv).length:=by simp[fL]
      have c2:0<(X k).1.length:=by rw[b3];simp
      refine⟨by simp[vb,f1]<;>omega,⟨hcl _,trivial⟩,by simp[vb],⟨rfl,rfl,rfl,rfl,c1,c2,by omega,by omega⟩,⟨trivial,trivial,?_⟩,trivial,trivial,?_⟩
      ·refine bq [(2,.pv (.int .i64 tg)),(3,.ptr 0 0 0),(7,.ref 1 0 0 n),(8,.ref 2 (g+1) pre.length ((X k).1.length+1)),(9,.pv (.sl L.length (L.flatMap aI))),(10,.pv (.int .i64 u)),(40,.pv (.int .i64 n)),(41,.pv (.int .i64 k))] (by (repeat' (first|exact trivial|refine And.intro (by first|rfl|(simp[get,Nat.beq]<;>omega)|(dsimp only[get];congr 1<;>first|rfl|omega|(simp<;>omega))) ?_))) ?_;refine uF (p0:=[.int .i64 n,.sl es.length (es.flatMap dP)]) rfl rfl (by rw[cO];simp) rfl (fun _=>rfl) rfl ?_;rw[hcs]
       obtain⟨s',w1,w2,rfl⟩:=fin pre (Nat.le_refl _);repeat' (first|((with_reducible show az _);(simp only[vb,lb,hlt];and_intros<;>first|omega|(simp<;>omega)))|((with_reducible show aB _);exact True.intro)|exact(rfl:some _=_)|((fail_if_success refine aK ?_);refine bG ?_;(repeat1' dsimp only[c146,go_sem]);first|refine aL ?_ ?_ rfl ?_|apply aM|apply aN|(refine aO (fun hc=>?_) fun hc=>?_<;>first|(cases hc;done)|(try simp only[bn]at hc;try contradiction))|skip))
       exact⟨_,w1,w2,by simp only[hxk];(repeat' (first|exact trivial|refine And.intro (by first|rfl|(simp[get,Nat.beq]<;>omega)|(dsimp only[get];congr 1<;>first|rfl|omega|(simp<;>omega))) ?_)),[],by simp only[hxk]<;>rfl⟩
      refine bq [(2,.pv (.int .i64 tg)),(3,.ptr 0 0 0),(7,.ref 1 0 0 n),(8,.ref 2 (g+1) 0 ((X k).1.length+1)),(9,.pv (.sl L.length (L.flatMap aI))),(10,.pv (.int .i64 u)),(40,.pv (.int .i64 n)),(41,.pv (.int .i64 k))] (by (repeat' (first|exact trivial|refine And.intro (by first|rfl|(simp[get,Nat.beq]<;>omega)|(dsimp only[get];congr 1<;>first|rfl|omega|(simp<;>omega))) ?_))) ?_;rw[show((fL (pre++(X k).1)).map AV.pv).drop pre.length=(fL ([]++(X k).1)).map AV.pv from by simp[fL]]
      refine uF (p0:=[.int .i64 n,.sl es.length (es.flatMap dP)]) rfl rfl (by rw[cO];simp) rfl (fun _=>rfl) rfl ?_;rw[hcs];obtain⟨s',w1,w2,rfl⟩:=fin [] (Nat.zero_le _);repeat' (first|((with_reducible show az _);(simp only[vb,lb,hlt];and_intros<;>first|omega|(simp<;>omega)))|((with_reducible show aB _);exact True.intro)|exact(rfl:some _=_)|((fail_if_success refine aK ?_);refine bG ?_;(repeat1' dsimp only[c146,go_sem]);first|refine aL ?_ ?_ rfl ?_|apply aM|apply aN|(refine aO (fun hc=>?_) fun hc=>?_<;>first|(cases hc;done)|(try simp only[bn]at hc;try contradiction))|skip))
      exact⟨_,w1,w2,by simp only[hxk];(repeat' (first|exact trivial|refine And.intro (by first|rfl|(simp[get,Nat.beq]<;>omega)|(dsimp only[get];congr 1<;>first|rfl|omega|(simp<;>omega))) ?_)),[],by simp only[hxk]<;>rfl⟩
   obtain rfl:k=n:=by omega
   repeat' (first|((with_reducible show az _);first|exact True.intro|(simp only[vb,lb,hlt,b3];and_intros<;>first|omega|(simp<;>omega)))|((with_reducible show aB _);exact True.intro)|exact(rfl:some _=_)|((fail_if_success refine aK ?_);refine bG ?_;(repeat1' dsimp only[c146,nu,kx,nv,go_sem]);first|refine aL ?_ ?_ rfl ?_|apply aM|apply aN|(refine aO (fun hc=>?_) fun hc=>?_<;>first|(cases hc;done)|(exfalso;(simp at hc<;>omega))|(try simp only[bn]at hc;try contradiction))|skip))
   generalize X k=Z at *;obtain⟨Z1,Z2⟩:=Z;simp only at b1 b2 b3 t2 p3 ⊢;subst b3;refine⟨(pre++[L],r++mm,Z2,g,f),?_,⟨⟨b1.len,fun x hx=>b1.ne x (by simp only[List.cons_append,List.mem_cons];exact .inr hx),b1.sr⟩,?_,p3,?_⟩,?_,[],?_⟩
   ·simp at b2 ⊢;omega
   ·simp at t2 ⊢;omega
   ·simp at b2 p4 ⊢;omega
   ·simp only[List.length_append,List.length_cons,List.length_nil];(repeat' (first|exact trivial|refine And.intro (by first|rfl|(simp[get,Nat.beq]<;>omega)|(dsimp only[get];congr 1<;>first|rfl|omega|(simp<;>omega))) ?_))
   simp[nu,kx,nv]
end
section
open Rf
end
section
open Rf
def JP:av:=(⟨_,by conv=>(lhs;reduce;try simp only[G4,Int.cast_ofNat_Int,Int.reduceNegSucc,UInt8.reduceOfNat])⟩:{x // codeOf Tryz.prog 26 (fun _=>false)=some x}).1
theorem Jk:bo Tryz.prog 26 (fun _=>false)=some (JP,[.t 2,.t 3],13,true):=by kernel_rfl
def JQ:av:=(⟨_,by conv=>(lhs;reduce;try simp only[G4,Int.cast_ofNat_Int,Int.reduceNegSucc,UInt8.reduceOfNat])⟩:{x // codeOf Tryz.prog 50 (fun _=>false)=some x}).1
theorem Jl:bo Tryz.prog 50 (fun _=>false)=some (JQ,[],67,true):=by kernel_rfl
def JR:av:=(⟨_,by conv=>(lhs;reduce;try simp only[G4,Int.cast_ofNat_Int,Int.reduceNegSucc,UInt8.reduceOfNat])⟩:{x // codeOf Tryz.prog 82 (fun _=>false)=some x}).1
theorem Jm:bo Tryz.prog 82 (fun _=>false)=some (JR,[],24,true):=by kernel_rfl
def JS:av:=(⟨_,by conv=>(lhs;reduce;try simp only[G4,Int.cast_ofNat_Int,Int.reduceNegSucc,UInt8.reduceOfNat])⟩:{x // codeOf Tryz.prog 57 (fun _=>false)=some x}).1
theorem Jn:bo Tryz.prog 57 (fun _=>false)=some (JS,[.t 2,.t 3],58,true):=by kernel_rfl
def JT:av:=(⟨_,by conv=>(lhs;reduce;try simp only[G4,Int.cast_ofNat_Int,Int.reduceNegSucc,UInt8.reduceOfNat])⟩:{x // codeOf Tryz.prog 56 (fun d=>Nat.beq d 105)=some x}).1
theorem Jo:bo Tryz.prog 56 (fun d=>Nat.beq d 105)=some (JT,[.cell 6 5 true],111,true):=by kernel_rfl
def JU:av:=(⟨_,by conv=>(lhs;reduce;try simp only[G4,Int.cast_ofNat_Int,Int.reduceNegSucc,UInt8.reduceOfNat])⟩:{x // codeOf Tryz.prog 87 (fun _=>false)=some x}).1
theorem Jp:bo Tryz.prog 87 (fun _=>false)=some (JU,[],6,true):=by kernel_rfl
def ru:List PV→Option (List aJ)
 |[]=>some []
 | .int .i64 a::.int .i64 b::.int .i64 c::r=>match ru r with
  |some l=>some (⟨a,b,c⟩::l)
  |none=>none
 |_=>none
structure nX where
 k:Int
 s:List aJ
 c:Int
 a:Int
 deriving DecidableEq
def zF:PV→Option nX
 | .agg [.int .i64 k,.sl n cs,.int .i64 c,.int .i64 a,.sl 0 []]=>match ru cs with
  |some s=>bif Nat.beq n s.length&&Nat.ble n 1000 then some ⟨k,s,c,a⟩ else none
  |none=>none
 |_=>none
def nX.t (x:nX):Tree:=.node x.k x.s x.c x.a []
theorem sZ:∀(cs:List PV) (s:List aJ),ru cs=some s→cs=s.flatMap af
 |[],s,h=>by injection h with h;subst h;rfl
 |[.int .i64 _],_,h=>by cases h
 |[.int .i64 _,.int .i64 _],_,h=>by cases h
 | .int .i64 a::.int .i64 b::.int .i64 c::r,s,h=>by
  rw[ru]at h;split at h
  ·rename_i l hl;injection h with h
   subst h;rw[sZ r l hl];rfl
  cases h
theorem B6 {p:PV} {x:nX} (h:zF p=some x):p=aE x.t∧wt x.t≤1000000000:=by
 unfold zF at h;split at h
 ·split at h
  ·rename_i s hs;rename_i k n cs c a _;cases hb:(Nat.beq n s.length&&Nat.ble n 1000) with
   |false=>rw[hb]at h;cases h
   |true =>
    rw[hb,cond_true]at h;injection h with h
    subst h;rw[Bool.and_eq_true]at hb;have h1:=Nat.eq_of_beq_eq_true hb.1;have h2:=Nat.le_of_ble_eq_true hb.2;subst h1;rw[sZ cs s hs];refine⟨rfl,?_⟩;rw[nX.t,cz];simp[iA];omega
  cases h
 cases h
def oF (f:nX→Option PV):List PV→Option PV:=fun ps=>match ps.map (canon 3) with
 |[p]=>match zF p with
  |some x=>f x
  |none=>none
 |_=>none
theorem lq {g:FuncId} {f:nX→Option PV} (h:∀x r,wt x.t≤1000000000→f x=some r→aq ctx g [aE x.t] r) (ps:List PV) (r:PV) (hr:oF f ps=some r):aq ctx g ps r:=by
 unfold oF at hr;split at hr
 ·rename_i p hp;split at hr
  ·rename_i x hx;obtain⟨h1,h2⟩:=B6 hx;refine aq.oy 3 ?_;rw[hp,h1];exact h x r h2 hr
  cases hr
 cases hr
def JV:nX:=⟨0,[⟨0,1,0⟩,⟨0,2,1⟩,⟨0,0,0⟩],0,0⟩
def Hs:List UInt8:=[114,111,119,32,49,32,48,10,114,111,119,32,50,32,49,10,114,111,119,32,48,32,48,10,99,108,111,115,101,100,10]
def FE:List UInt8:=[114,111,119,32,48,49,32,48,10,99,108,111,115,101,100,10]
def vH (x:nX):Bool:=x.s.all bL&&Rf.gT x.k x.c x.a 0
theorem DK (x:nX):c7 x.t=1:=by rw[nX.t,iy];rfl
theorem Ht (x:nX):aT x.t=x.s.length:=by rw[nX.t,ey];rfl
theorem uG (x:nX) (h:x.s.length≤1000):gC x.t=vH x:=by
 have hw:wt x.t=1+x.s.length:=by rw[nX.t,cz];rfl
 have d1:decide (c7 x.t≤4096)=true:=by rw[DK];rfl
 have d2:decide (wt x.t≤65536)=true:=by rw[hw];simp;omega
 unfold gC;rw[d1,d2,nX.t,cY];simp[vH]
def Jq (μ:AM):List AV→Option (AV×AM)
 |[.ptr b g 0]=>match μ[b]? with
  |some ⟨[.pv (.val (.pointer none)),y],g',2,t,false⟩=>bif Nat.beq g' g&&Nat.beq t 78 then some (.pv (.tup []),μ.set b (vE (.ptr b g 0) y g)) else none
  |some ⟨[.ptr b1 g1 0,_],g',2,t,false⟩=>bif Nat.beq g' g&&Nat.beq g1 g&&Nat.beq b1 b&&Nat.beq t 78 then some (.pv (.tup []),μ) else none
  |_=>none
 |_=>none
theorem Hu (μ:AM) (vs:List AV) (r:AV) (μ':AM) (h:Jq μ vs=some (r,μ')):aF ctx 111 vs μ r μ':=by
 unfold Jq at h;split at h
 ·split at h
  ·rename_i hk;rw[cond_eq_ite]at h;split at h
   ·rename_i hb;simp only[Bool.and_eq_true,Nat.beq_eq]at hb;obtain⟨rfl,rfl⟩:=hb;injection h with h
    injection h with h1 h2
    subst h1 h2;exact rb hk
   cases h
  ·rename_i hk;rw[cond_eq_ite]at h;split at h
   ·rename_i hb;simp only[Bool.and_eq_true,Nat.beq_eq]at hb;obtain⟨⟨⟨rfl,rfl⟩,rfl⟩,rfl⟩:=hb;injection h with h
    injection h with h1 h2
    subst h1 h2;exact re hk
   cases h
  cases h
 cases h
def IS:List AV→Option (List UInt8)
 |[]=>some []
 | .pv (.int .u8 (.ofNat n))::r=>match IS r with
  |some l=>bif Nat.blt n 256 then some (UInt8.ofNat n::l) else none
  |none=>none
 |_=>none
theorem DL:∀(cs:List AV) (l:List UInt8),IS cs=some l→cs=iZ l
 |[],l,h=>by injection h with h;subst h;rfl
 |x::r,l,h=>by
  unfold IS at h;split at h
  ·rename_i he;cases he
  ·rename_i n r1 he;injection he with e1 e2
   subst e1 e2;split at h
   ·rename_i l1 h1;rw[cond_eq_ite]at h;split at h
    ·rename_i hb;injection h with h
     subst h;rw[DL r l1 h1];have:n<256:=Nat.le_of_ble_eq_true hb;simp[iZ,Nat.mod_eq_of_lt this]
    cases h
   cases h
  cases h
def Hv (μ:AM):List AV→Option (AV×AM)
 |[.ptr b g 0]=>match μ[b]? with
  |some ⟨[_,.ref r j 0 n],g',2,t,false⟩=>match μ[r]? with
   |some ⟨cs,j',1,t',false⟩=>match IS cs with
    |some (a::l)=>bif Nat.beq g' g&&Nat.beq t 78&&Nat.beq j' j&&Nat.beq t' 5&&Nat.beq n (a::l).length then some (.pv (.str (a::l)),μ.set r {zz (a::l) j with frozen:=true}) else none
    |_=>none
   |_=>none
  |_=>none
 |_=>none
theorem FF (μ:AM) (vs:List AV) (r:AV) (μ':AM) (h:Hv μ vs=some (r,μ')):aF ctx 52 vs μ r μ':=by
 unfold Hv at h;split at h
 ·split at h
  ·rename_i hk;split at h
   ·rename_i hr;split at h
    ·rename_i hu;rw[cond_eq_ite]at h;split at h
     ·rename_i hb;simp only[Bool.and_eq_true,Nat.beq_eq]at hb;obtain⟨⟨⟨⟨rfl,rfl⟩,rfl⟩,rfl⟩,rfl⟩:=hb;injection h with h
      injection h with h1 h2
      subst h1 h2;rw[DL _ _ hu]at hr;exact zA (by simp) hk hr
     cases h
    cases h
   cases h
  cases h
 cases h
def FG:ld where
 fns:=[(26,⟨JP,[.t 2,.t 3],13⟩),(50,⟨JQ,[],67⟩),(82,⟨JR,[],24⟩),(57,⟨JS,[.t 2,.t 3],58⟩),(56,⟨JT,[.cell 6 5 true],111⟩),(87,⟨JU,[],6⟩),(83,⟨Gu,[.t 4,.t 5],19⟩),(51,⟨Gv,[.t 2],8⟩)]
 pure:=[(13,oF fun x=>bif Nat.ble x.s.length 1000 then some (.bool (vH x)) else none),
  (84,fun ps=>match ps with|[.int .i64 n]=>bif Nat.ble n.natAbs 1000 then some (.str (Lib.itoa n)) else none|_=>none),
  (88,fun ps=>match ps with|[.str l]=>bif Nat.ble l.length 1000 then some (Dk l) else none|_=>none),
  (55,fun ps=>match ps with|[.str s,.str [c]]=>bif Nat.ble s.length 1000 then some (vC (Dr c s)) else none|_=>none)]
 ref:=[(111,Jq),(52,Hv)]
theorem Ii:∀p∈FG.fns,∃own,bo Tryz.prog p.1 own=some (p.2.x,p.2.rs,p.2.n,true):=by
 simp only[FG,List.forall_mem_cons];exact⟨⟨_,Jk⟩,⟨_,Jl⟩,⟨_,Jm⟩,⟨_,Jn⟩,⟨_,Jo⟩,⟨_,Jp⟩,⟨_,Hh⟩,⟨_,Hi⟩,by simp⟩
theorem j8 {α:Type} {g:Nat} {e:α}:∀{l:List (Nat×α)},jP l g=some e→(g,e)∈l
 |[],h=>by cases h
 |(k,y)::r,h=>by
  rw[jP]at h;cases hk:Nat.beq k g with
  |true =>
   rw[hk,cond_true]at h;injection h with h
   rw[Nat.eq_of_beq_eq_true hk,h];exact List.mem_cons_self
  |false =>
   rw[hk,cond_false]at h;exact List.mem_cons_of_mem _ (j8 h)
theorem vI:jx ctx FG where
 dz:=.inl rfl
 fns g e h:=Ii _ (j8 h)
 pure g s h ps r hr:=by
  have h:=j8 h;simp only[FG,List.mem_cons,Prod.mk.injEq,List.not_mem_nil,or_false]at h;rcases h with⟨rfl,rfl⟩|⟨rfl,rfl⟩|⟨rfl,rfl⟩|⟨rfl,rfl⟩
  ·refine lq (fun x r hw h=>?_) ps r hr;cases hb:Nat.ble x.s.length 1000 with
   |false=>rw[hb]at h;cases h
   |true =>
    rw[hb,cond_true]at h;injection h with h
    subst h;rw[←uG x (Nat.le_of_ble_eq_true hb)];exact sW x.t hw
  all_goals
   dsimp only at hr;split at hr
   ·rw[cond_eq_ite]at hr;split at hr
    ·rename_i hb;have:=Nat.le_of_ble_eq_true hb;injection hr with hr
     subst hr;first|exact Fa _ (by omega) (by omega)|exact Fb _ (by omega)|exact xD _ _ (by omega)
    cases hr
   cases hr
 ref g s h μ vs r μ' hr:=by
  have h:=j8 h;simp only[FG,List.mem_cons,Prod.mk.injEq,List.not_mem_nil,or_false]at h;rcases h with⟨rfl,rfl⟩|⟨rfl,rfl⟩
  ·exact Hu _ _ _ _ hr
  exact FF _ _ _ _ hr
noncomputable def Hw (ps:List PV):Option PV:=wW FG (run FG 500) 26 ps
noncomputable def GV (μ:AM) (vs:List AV):Option (AV×AM):=sd FG (run FG 500) 56 vs μ
theorem AH (ps:List PV) (r:PV) (h:Hw ps=some r):aq ctx 26 ps r:=se vI (nd vI 500) h
theorem DM (μ:AM) (vs:List AV) (r:AV) (μ':AM) (h:GV μ vs=some (r,μ')):aF ctx 56 vs μ r μ':=wZ vI (nd vI 500) h
set_option maxRecDepth 100000 in
theorem Ij:Hw [aE JV.t]=some (.tup [.str Hs,.int .i64 0]):=by kernel_rfl
end
end Pur
end
end Go.Proofs.YtaleoeblooeglaaGreatDoor
