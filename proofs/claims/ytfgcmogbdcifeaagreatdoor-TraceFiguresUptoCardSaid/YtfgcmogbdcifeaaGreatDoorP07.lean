/-
  Part of the proofs of TraceFigures and TraceCounts (TrTf TrCdFigures)
-/
import Derived.Test.YtfgcmogbdcifeaaGreatDoorP06
set_option maxRecDepth 10000
set_option linter.unusedSimpArgs false
set_option linter.unusedVariables false
namespace Go.Proofs.YtfgcmogbdcifeaaGreatDoor
namespace Pur
open Go.RowKit
section
open Tr
theorem th (qs:List PV) (h:ov Tryz.prog 1048576 [38,49] qs):ah ctx 5 qs (.bool true):=by
 match qs,h with
 |[p0,p1],h =>
  obtain⟨h0,h1,-⟩:=h;obtain⟨x,rfl,hs,hl,hw⟩:=HM h0;obtain⟨f,rfl,hf⟩:=NJ h1;exact yQ xl x f (hw (by omega)) (by omega) (by omega) hf
end
end Pur
end Go.Proofs.YtfgcmogbdcifeaaGreatDoor
namespace Go.Proofs.YtfgcmogbdcifeaaGreatDoor.lawTraceFigures
open Go.ChangeShapes Go.WideShapes Go.ChangeAt Go.RowKit
theorem sM (H:Type) (enc:TypeId×Value→H) (W:World) (base:Nat) (args:Array Value) (ds gs:List (DataW H)) (before:List MemPlace)
  (hval:∀(j:Nat) t v,Tryz.f5.params[j]?=some t→args[j]?=some v→Value.okWide Tryz.prog W .any base t v)
  (hW:DataW.Whole enc Tryz.prog Tryz.f5.params.toList Rows.traceFiguresSpec.vars false W args.toList ds gs before) (hk:Rows.uptoSmall H (ds++gs)=true) (hL:laidMetH Tryz.prog Rows.traceFiguresUptoRow.laid W) (hsh:W.ShapedOpen Tryz.prog) :
  Calls Tryz.prog 5 args W fun e W'=>∃v,e= .returned v∧Rows.traceFiguresSpec.post enc Tryz.prog Tryz.f5 false true false false W args v W':=by
 have hW':=hW;obtain⟨p,q,hA0,hV,rfl,hfz,hnd⟩:=hW;have hA:DataW.TrodAll enc Tryz.prog W 0 (fun _=>true) true [38,49] args.toList ds p:=hA0;obtain⟨rfl,rfl⟩:=trodVars_none hV;obtain⟨qs,hty,hps⟩:=Pur.rM (B:=1048576) (Sm:=(fun d:DataW H=>Rows.uptoBulk d≤1048576)) Pur.uN.upto (L:=[38,49,3,22,36,71,61,58,59,65,63,67,68,196,69]) (r:=.any) (b:=base) (by kernel_rfl) [38,49] args.toList ds p (of_decide_eq_true rfl) (fun j t v h1 h2=>hval j t v (by
  rw[Tryz.params5,List.getElem?_toArray];exact h1) (by rw[Array.getElem?_toList]at h2;exact h2)) hA (fun d hd=>Pur.wL hk d (List.mem_append_left _ hd))
 have hst:∀(W':World) (sp:Nat→Bool),Below W.heap.size W W'→(∀x∈p++[],sp x.block=true)→DataW.TrodAll enc Tryz.prog W' 0 sp true [38,49] args.toList ds p:=fun W' sp hb hsp =>
  Pur.rN (by kernel_rfl) _ _ _ _ (of_decide_eq_true (by kernel_rfl)) (fun x hx=>Pur.rO hb (hW'.lt x (List.mem_append_left _ hx))) (fun x hx=>hsp x (List.mem_append_left _ hx)) hA
 have hE:=Cd.C2 hL hsh;obtain⟨v0,vs0,d0,ds0,p0,q0,hargs,rfl,hp0,h0,r0⟩:=trodAll_cons hA;obtain⟨v1,vs1,d1,ds1,p1,q1,rfl,rfl,hp1,h1,r1⟩:=trodAll_cons r0;obtain⟨rfl,rfl,rfl⟩:=trodAll_nil r1;obtain rfl:args=#[v0,v1]:=by cases args;simp_all
 refine((Pur.th qs hty).2 W (Pur.nn W) [v0,v1] hE (fun g h=>h) hps).mono fun e W' hh=>?_
 obtain⟨v,he,hb,hv⟩:=hh;have:=Pur.pG hv;subst this;subst he;exact⟨_,rfl,rK (pa:=p) (pv:=[]) hW' (fun _ _ _=>trodAll_cons_mk (shut_bool Tryz.underlying4 _) trodAll_mk0)
  (fun sp hsp=>hst W' sp hb hsp) (fun _ _=>rfl) rfl
  hb (ok_one (by kernel_rfl) rfl (okWide_bool_mk Tryz.underlying4 _))⟩
def start:Array Value:=#[.agg #[.int .i64 0,.int .i64 0,.slice none 0 0,.slice none 0 0],.agg #[.int .i64 0,.int .i64 0,.int .i64 0,.int .i64 0,.int .i64 0,.int .i64 0,.int .i64 0,.int .i64 0,.int .i64 0,.int .i64 0,.int .i64 0,.int .i64 0,.int .i64 0,.int .i64 0,.int .i64 0]]
theorem met (os:Os):laidMet Tryz.prog Rows.traceFiguresUptoRow.laid ((World.laidAll Tryz.prog os Rows.traceFiguresUptoRow.laid).forCall (fun _ _=>0) ⟨#[],start,[]⟩).memory :=
 laidMet_laidAll _ (by kernel_rfl) (by kernel_rfl)
theorem reads (os:Os) {H:Type} (enc:TypeId×Value→H):∃places,DataW.whole enc Tryz.prog ((World.laidAll Tryz.prog os Rows.traceFiguresUptoRow.laid).forCall (fun _ _=>0) ⟨#[],start,[]⟩).memory Tryz.f5.params.toList Rows.traceFiguresSpec.vars false start.toList 8=some ([.agg [.lit (.int .i64 0),.lit (.int .i64 0),.nil,.nil],.agg [.lit (.int .i64 0),.lit (.int .i64 0),.lit (.int .i64 0),.lit (.int .i64 0),.lit (.int .i64 0),.lit (.int .i64 0),.lit (.int .i64 0),.lit (.int .i64 0),.lit (.int .i64 0),.lit (.int .i64 0),.lit (.int .i64 0),.lit (.int .i64 0),.lit (.int .i64 0),.lit (.int .i64 0),.lit (.int .i64 0)]],[],places) :=
 ⟨[],by kernel_rfl⟩
set_option maxRecDepth 100000 in
theorem lifted (os:Os) (started:os.Started) (H:Type) (enc:TypeId×Value→H) (F:Stop.Interp) :
  ReturnsInHanded {} Tryz.checked os 5 .any ((Rows.OpenSpec.upto Rows.traceFiguresSpec).preRow enc Tryz.prog Tryz.f5 Rows.traceFiguresUptoRow.domain false Rows.traceFiguresUptoRow.laid) (((Rows.OpenSpec.upto Rows.traceFiguresSpec).at F).post enc Tryz.prog Tryz.f5 false true false false):=by
 obtain⟨places,hx⟩:=reads os enc;refine returnsInHanded_of_row (C:=Tryz.checked) (s:=(Rows.OpenSpec.upto Rows.traceFiguresSpec)) Cd.own started (by kernel_rfl) Tryz.func5
  (witness_row_atRef (enc:=enc) (C:=Tryz.checked) false (World.laidAll Tryz.prog os Rows.traceFiguresUptoRow.laid) start (World.laidAll_os _ _ _) (by kernel_rfl) (by kernel_rfl) (by kernel_rfl)
   (OpenSpec.preRow_of_cond 8 hx (by kernel_rfl) (fun k hk=>by cases hk;kernel_rfl) (by kernel_rfl) (met os))) ?_
 intro W base args ds gs before hval hW _ hk _ hL hsh _;exact sM H enc W base args ds gs before hval hW (hk _ rfl) hL hsh
theorem D4:Cd.NO Tryz.pinned.checked.prog Tryz.f5 (Rows.OpenSpec.upto Rows.traceFiguresSpec).bare Rows.traceFiguresUptoRow=true:=by kernel_rfl
theorem D5:Cd.NP Tryz.pinned.checked.prog 5 Rows.traceFiguresUptoRow=true:=by kernel_rfl
theorem D6:Cd.NQ Tryz.pinned.checked.prog 5 Rows.traceFiguresUptoRow=true:=by kernel_rfl
theorem D7:Cd.NR Tryz.pinned.checked.prog 5 Rows.traceFiguresUptoRow=true:=by kernel_rfl
theorem D8:Cd.NT Tryz.pinned.checked.prog 5 Rows.traceFiguresUptoRow=true:=by kernel_rfl
theorem D9:Cd.NU Tryz.pinned.checked.prog Tryz.f5 (Rows.OpenSpec.upto Rows.traceFiguresSpec).bare Rows.traceFiguresUptoRow=true:=by kernel_rfl
theorem Ea:Cd.NV Tryz.pinned.checked.prog Rows.traceFiguresUptoRow=true:=by kernel_rfl
theorem Eb:Cd.NW Tryz.pinned.checked.prog Rows.traceFiguresUptoRow=true:=by kernel_rfl
theorem Ec:Cd.NX Tryz.pinned.checked.prog Tryz.f5 (Rows.OpenSpec.upto Rows.traceFiguresSpec).bare Rows.traceFiguresUptoRow=true:=by kernel_rfl
theorem facts:joinedFacts Tryz.pinned.checked.prog 5 Tryz.f5 (Rows.OpenSpec.upto Rows.traceFiguresSpec).bare Rows.traceFiguresUptoRow=true:=Cd.tM D4 D5 D6 D7 D8 D9 Ea Eb Ec
theorem goes:false=OpenClaim.goesBy Rows.traceFiguresUptoRow Tryz.pinned.checked.prog:=Cd.zI rfl (by kernel_rfl)
theorem said:Rows.TraceFiguresUptoSaid :=
 OpenClaim.holds_of_cond 5 Tryz.f5 rfl rfl rfl rfl rfl rfl rfl ⟨rfl,rfl,rfl,rfl,rfl⟩ rfl rfl rfl rfl rfl (by kernel_rfl) Tryz.func5 facts
  (of_decide_eq_true (by kernel_rfl)) (by unfold Func.isWrapper;rw[if_neg (of_decide_eq_false (by kernel_rfl))];exact⟨rfl,rfl⟩)
  (fun os started H enc _ F=>by rw[OpenClaim.pre_eq_preRow];exact lifted os started H enc F)
theorem plain (f : FuncId) (fn : Func) (hf : Tryz.pinned.checked.prog.funcNamed "confluent/confluentlaw59.TraceFigures" = some f) (hfn : Tryz.pinned.checked.prog.funcs[f]? = some fn) :
  false=Tryz.pinned.checked.prog.looks []∧∀(j:Nat) t,fn.params[j]?=some t→Tryz.pinned.checked.prog.wantsStandIn t=false:=by
 obtain rfl : f = 5 := Option.some.inj ((show Tryz.prog.funcNamed "confluent/confluentlaw59.TraceFigures" = some 5 by kernel_rfl).symm.trans hf) |>.symm
 obtain rfl:fn=Tryz.f5:=(Option.some.inj (Tryz.func5.symm.trans hfn)).symm;refine⟨by kernel_rfl,fun j t ht=>?_⟩;rw[Tryz.params5]at ht;have hm:=Array.mem_of_getElem? ht;simp only[List.mem_toArray,List.mem_cons,List.not_mem_nil,or_false]at hm;rcases hm with rfl|rfl
 ·exact(by kernel_rfl:Tryz.prog.wantsStandIn 38=false)
 exact(by kernel_rfl:Tryz.prog.wantsStandIn 49=false)
theorem proved:Rows.TraceFiguresUptoCardSaid :=
 Claim7.holds_tied_plain_at .later [] _ _ _ _ said (fun _ h=>by cases h) (by kernel_rfl) (fun _ h=>by cases h) traceFiguresUpto_row_tie rfl ⟨rfl,rfl⟩ (by kernel_rfl) rfl plain goes
end Go.Proofs.YtfgcmogbdcifeaaGreatDoor.lawTraceFigures
