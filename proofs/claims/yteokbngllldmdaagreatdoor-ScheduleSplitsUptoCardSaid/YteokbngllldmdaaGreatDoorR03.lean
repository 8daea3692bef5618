/-
  A part of the proof of the schedule package's laws. (SchPlain Mem SchMem PurX Laid Post CdA Opn OpnU CdU Typ PsA Shelf PsB PqA PqB PqC PqD PsC PqE PqF PsE PsG PsH PsP PtA SchRefC SchRefD SchRefE SchRefF SchRefG PtB PtC)
-/
import Derived.Test.YteokbngllldmdaaGreatDoorR02
import Derived.WalkKit
import Derived.Lib.ItoaNum
import Derived.WalkSpells
import Derived.Lib.Hide
import Derived.Deep.Draws
import Derived.WalkSmall
import Derived.Deep.QuietTactic
import Derived.BigQuiet
import Derived.WalkLawsBesides
import Derived.Test.YteokbngllldmdaaGreatDoorRows
import Derived.Lib.LaidTab
import Derived.Test.YteokbngllldmdaaGreatDoorProg
import Derived.Below
import Derived.ChangeSame
import Derived.ProofKit
import Derived.Test.YteokbngllldmdaaGreatDoorCards
import Derived.Test.YteokbngllldmdaaGreatDoorTie
import Derived.OpenShut
import Derived.Deep.DeepHandedRow
import Derived.Deep.DeepWitnessRowRef
import Derived.Lay
import Derived.WideKeyArgs
import Derived.Shelf.Strings.Builder1
import Derived.Shelf.Strings.Builder2
import Derived.Shelf.Strings.OnBuilder
import Derived.Shelf.Strings.BuilderF
import Derived.Shelf.Strings.BuilderK
import Derived.Shelf.Utf8.RuneCount
import Derived.Shelf.Strings.Builder2Cap
import Derived.Shelf.Strconv.Atoi
import Derived.Shelf.Strconv.Itoa0
import Derived.Shelf.Strconv.Itoa1
import Derived.Shelf.LaysM
import Derived.Shelf.Strconv.Itoa2
import Derived.Shelf.Strconv.Itoa3
import Derived.Shelf.Strconv.AtoiErrFast
import Derived.Shelf.Strconv.ParseIntEmpty
import Derived.Shelf.Strconv.AtoiFail
import Derived.Shelf.Strconv.Clone
import Derived.Shelf.Strconv.SyntaxError
import Derived.Shelf.LaysC
import Derived.Shelf.Strconv.ToError
import Derived.Shelf.Strconv.AtoiErr
import Derived.Shelf.Strconv.ErrVar
import Derived.Shelf.Strconv.Lower
import Derived.Shelf.Strconv.ParseUint10
import Derived.Shelf.Strconv.ParseUint10Empty
import Derived.Shelf.Strconv.ParseUint10Any
import Derived.Shelf.Strconv.ParseInt10
import Derived.Shelf.Strconv.AtoiLong
import Derived.Shelf.Strconv.AtoiInnerAll
import Derived.Shelf.Strconv.RangeError
import Derived.Shelf.Strconv.ToErrorRange
import Derived.Shelf.Strconv.AtoiAll
import Derived.Shelf.Strconv.ErrVarAll
import Derived.Shelf.Strconv.ParseUintEmpty
import Derived.Shelf.Strconv.ParseUint10b64
import Derived.Shelf.Strconv.ParseUint10b32
import Derived.Shelf.Strconv.ParseUint10b16
import Derived.Shelf.Strconv.ParseUint10b8
import Derived.Shelf.Strconv.ParseUint10At
import Derived.Shelf.Strconv.ParseInt10At64
import Derived.Shelf.Strconv.ParseInt10At32
import Derived.Shelf.Strconv.ParseInt10At16
import Derived.Shelf.Strconv.ParseInt10At8
import Derived.Shelf.Strconv.ParseInt10All
import Derived.Shelf.Strings.Search1
import Derived.Shelf.Strings.Search2
import Derived.Shelf.Strings.Search3
import Derived.Shelf.Strings.Cut
import Derived.Shelf.Strings.Count
import Derived.Shelf.Strings.Shaped
import Derived.Shelf.Strings.Prefix
import Derived.Shelf.Strings.Split
import Derived.Shelf.Strings.Replace
import Derived.Shelf.Strings.SplitShaped
import Derived.Shelf.Unicode.Decode
import Derived.Shelf.Strings.RuneCount
import Derived.Shelf.Strings.Explode
import Derived.Shelf.Unicode.DecodeSlow
import Derived.Shelf.Unicode.DecodeAny
import Derived.Shelf.Strings.FieldsFuncAny
import Derived.Shelf.Strings.FieldsFuncGrows
import Derived.Shelf.Strings.BuilderCap
import Derived.Shelf.Slices.Turned
import Derived.Shelf.Slices.Equal
import Derived.Ground.Names2Prog
import Derived.Shelf.Slices.Clone
import Derived.Shelf.Slices.Empties2
import Derived.Ground.SlgnProg
import Derived.Shelf.SlicesE.Clone
import Derived.Ground.SlgfProg
import Derived.Shelf.SlicesE.IndexFunc
import Derived.Lib.AtoiAll
import Derived.Lib.SmallJoins
import Derived.Shelf.SlSorted.Search
import Derived.Laws.IdiomStrings
import Derived.Lib.ItoaLen
import Derived.Deep.RegionWith
import Derived.Lib.Atoi
set_option maxRecDepth 10000
set_option linter.unusedSimpArgs false
set_option linter.unusedVariables false
namespace Go.Proofs.YteokbngllldmdaaGreatDoor
namespace Sch
structure Fate where
 drop : Bool
 delay : Int
 again : Int
abbrev Query := Int × Int
structure Step where
 tick : Int
 kind : Int
 replica : Int
 other : Int
 session : Int
 action : Int
 after : Int
 queries : List Query
 survive : List Int
 voters : List Int
structure Sched where
 replicas : Int
 sessions : Int
 sectors : Int
 ticks : Int
 state : List Int
 fates : List Fate
 steps : List Step
def zeroStep : Step := ⟨0, 0, 0, 0, 0, 0, 0, [], [], []⟩
def zeroSched : Sched := ⟨0, 0, 0, 0, [], [], []⟩
def between (n lo hi : Int) : Bool := decide (lo ≤ n) && decide (n ≤ hi)
def allIn (l : List Int) (lo hi : Int) : Bool := l.all fun n => between n lo hi
def fateOk (f : Fate) : Bool := if f.drop then decide (f.delay = 0) && decide (f.again = 0) else between f.delay 1 1024 && between f.again 0 1024
def fieldsOf (x : Step) : Step :=
 let y : Step := { zeroStep with tick := x.tick, kind := x.kind, replica := x.replica }
 if x.kind = 0 then { y with session := x.session, action := x.action }
 else if x.kind = 1 then { y with session := x.session, queries := x.queries }
 else if x.kind = 2 ∨ x.kind = 3 then { y with other := x.other }
 else if x.kind = 4 then { y with after := x.after, survive := x.survive }
 else if x.kind = 6 then { y with voters := x.voters }
 else y
def ascending : List Int → Bool
 | a :: b :: r => decide (a < b) && ascending (b :: r)
 | _ => true
def queryOk (q : Query) : Bool := between q.1 0 2 && between q.2 0 127
def kindOk (s : Sched) (x : Step) : Bool :=
 if x.kind = 0 then between x.session 0 (s.sessions - 1) && between x.action 0 255
 else if x.kind = 1 then between x.session 0 (s.sessions - 1) && between x.queries.length 1 16 && x.queries.all queryOk
 else if x.kind = 2 ∨ x.kind = 3 then between x.other 0 (s.replicas - 1) && decide (x.other ≠ x.replica)
 else if x.kind = 4 then between x.after 0 1024 && decide (x.survive.length ≤ 16) && allIn x.survive 0 64
 else if x.kind = 6 then ascending x.voters && decide (0 < x.voters.length) && allIn x.voters 0 (s.replicas - 1)
 else true
def sameStep (a b : Step) : Bool :=
 decide (a.tick = b.tick) && decide (a.kind = b.kind) && decide (a.replica = b.replica) && decide (a.other = b.other) && decide (a.session = b.session) && decide (a.action = b.action) &&
  decide (a.after = b.after) && decide (a.queries = b.queries) && decide (a.survive = b.survive) && decide (a.voters = b.voters)
theorem sameStep_iff (a b : Step) : sameStep a b = true ↔ a = b := by
 unfold sameStep
 simp only [Bool.and_eq_true, decide_eq_true_eq]
 constructor
 ·rintro ⟨⟨⟨⟨⟨⟨⟨⟨⟨h1, h2⟩, h3⟩, h4⟩, h5⟩, h6⟩, h7⟩, h8⟩, h9⟩, h10⟩
  cases a; cases b; simp_all
 ·rintro rfl; simp
def possible (s : Sched) (x : Step) : Bool :=
 between x.kind 0 6 && sameStep x (fieldsOf x) && between x.replica 0 (s.replicas - 1) && kindOk s x
def lastTickOk (s : Sched) (x : Step) : Bool := match s.steps.getLast? with
 | none => true
 | some y => decide (y.tick ≤ x.tick)
def follows (s : Sched) (x : Step) : Bool :=
 decide (s.steps.length < 256) && between x.tick 0 (s.ticks - 1) && lastTickOk s x && possible s x
def head (s : Sched) : Bool :=
 between s.replicas 1 5 && between s.sessions 0 8 && between s.sectors 8 2048 && between s.ticks 0 1048576 && decide (s.state.length ≤ 128) && allIn s.state (-1000000) 1000000
def stepsOk (s : Sched) : List Step → List Step → Bool
 | _, [] => true
 | done, x :: r => follows { s with steps := done } x && stepsOk s (done ++ [x]) r
def valid (s : Sched) : Bool := head s && decide (s.fates.length ≤ 256) && s.fates.all fateOk && stepsOk s [] s.steps
end Sch
end Go.Proofs.YteokbngllldmdaaGreatDoor
namespace Go.Proofs.YteokbngllldmdaaGreatDoor
open Go.RowKit
def Whole (w : World) (g : Nat) (t : TypeId) (cs : Array Value) : Prop := w.heap[g]? = some (.cells cs t (0, 0))
section
variable {w w' : World} {g : Nat} {t : TypeId} {cs : Array Value}
theorem Whole.lt (h : Whole w g t cs) : g < w.heap.size := by
 apply Classical.byContradiction
 intro hn
 unfold Whole at h
 rw [Array.getElem?_eq_none (Nat.le_of_not_lt hn)] at h
 cases h
theorem Whole.cell (h : Whole w g t cs) (i : Nat) : w.cell? ⟨g, i, none⟩ = cs[i]? := by
 unfold Whole at h; simp [World.cell?, h]
theorem Whole.free (h : Whole w g t cs) (i : Nat) : w.frozen? ⟨g, i, none⟩ = false := by
 unfold Whole at h; simp [World.frozen?, h]
theorem Whole.new (w : World) (t : TypeId) (cs : Array Value) : Whole (w.alloc (.cells cs t)) w.heap.size t cs := heap_alloc_new w _
theorem Whole.alloc (h : Whole w g t cs) (o : Obj) : Whole (w.alloc o) g t cs := (Below.heap_alloc w o g h.lt).trans h
theorem Whole.set (h : Whole w g t cs) (i : Nat) (u : Value) : Whole (w.setCell ⟨g, i, none⟩ u) g t (cs.setIfInBounds i u) := by
 unfold Whole at h ⊢
 simp [World.setCell, Array.getElem?_modify, h]
theorem Whole.below {B : Nat} (h : Whole w g t cs) (hb : Below B w w') (hg : g < B) : Whole w' g t cs := (hb.block g hg).trans h
end
def str (l : List UInt8) : ByteArray := ⟨l.toArray⟩
theorem str_size (l : List UInt8) : (str l).size = l.length := by simp [str, ByteArray.size]
def StrsAt (w : World) (A : Option Addr) (xs : List (List UInt8)) : Prop :=
 xs = [] ∨ ∃ g : Nat, A = some ⟨g, 0, none⟩ ∧ ∀ k (h : k < xs.length), w.cell? ⟨g, k, none⟩ = some (.string (str xs[k]))
theorem StrsAt.below {w w' : World} {A : Option Addr} {xs : List (List UInt8)} (h : StrsAt w A xs) (hb : Below w.heap.size w w') : StrsAt w' A xs := by
 rcases h with h | ⟨g, hA, hc⟩
 ·exact .inl h
 ·exact .inr ⟨g, hA, fun k hk => (hb.cell (p := ⟨g, k, none⟩) (World.block_lt_of_cell? _ _ (hc k hk))).trans (hc k hk)⟩
end Go.Proofs.YteokbngllldmdaaGreatDoor
namespace Go.Proofs.YteokbngllldmdaaGreatDoor
open Go.RowKit
open Sch
def SlAt (w : World) (v : Value) (n size : Nat) (R : Nat → (Nat → Option Value) → Prop) : Prop :=
 ∃ A cap, v = .slice A n cap ∧ n ≤ cap ∧ (n = 0 ∨ ∃ g o : Nat, A = some ⟨g, o, none⟩ ∧ g < w.heap.size ∧ ∀ k, k < n → R k fun j => w.cell? ⟨g, o + k * size + j, none⟩)
theorem SlAt.later {w w' : World} {v : Value} {n size : Nat} {R R' : Nat → (Nat → Option Value) → Prop} (h : SlAt w v n size R) (hb : Below w.heap.size w w') (hR : ∀ k c, k < n → R k c → R' k c) : SlAt w' v n size R' := by
 obtain ⟨A, cap, rfl, hc, h⟩ := h
 refine ⟨A, cap, rfl, hc, ?_⟩
 rcases h with h | ⟨g, o, hA, hg, hk⟩
 ·exact .inl h
 ·refine .inr ⟨g, o, hA, Nat.lt_of_lt_of_le hg hb.size, fun k hkn => ?_⟩
  have : (fun j => w'.cell? ⟨g, o + k * size + j, none⟩) = fun j => w.cell? ⟨g, o + k * size + j, none⟩ := funext fun j => hb.cell (p := ⟨g, _, none⟩) hg
  rw [this]
  exact hR k _ hkn (hk k hkn)
def IntsAt (w : World) (v : Value) (xs : List Int) : Prop := SlAt w v xs.length 1 fun k c => c 0 = some (.int .i64 (xs.getD k 0))
def WordsAt (w : World) (v : Value) (xs : List (List UInt8)) : Prop := SlAt w v xs.length 1 fun k c => c 0 = some (.string (str (xs.getD k [])))
def QueriesAt (w : World) (v : Value) (xs : List Query) : Prop := SlAt w v xs.length 2 fun k c => c 0 = some (.int .i64 (xs.getD k (0, 0)).1) ∧ c 1 = some (.int .i64 (xs.getD k (0, 0)).2)
def FatesAt (w : World) (v : Value) (xs : List Fate) : Prop :=
 SlAt w v xs.length 3 fun k c => c 0 = some (.bool (xs.getD k ⟨false, 0, 0⟩).drop) ∧ c 1 = some (.int .i64 (xs.getD k ⟨false, 0, 0⟩).delay) ∧ c 2 = some (.int .i64 (xs.getD k ⟨false, 0, 0⟩).again)
def Tails (w : World) (q s t : Value) (x : Step) : Prop := QueriesAt w q x.queries ∧ IntsAt w s x.survive ∧ IntsAt w t x.voters
def stepCells (x : Step) (q s t : Value) : Array Value :=
 #[.int .i64 x.tick, .int .i64 x.kind, .int .i64 x.replica, .int .i64 x.other, .int .i64 x.session, .int .i64 x.action, .int .i64 x.after, q, s, t]
def StepsAt (w : World) (v : Value) (xs : List Step) : Prop :=
 SlAt w v xs.length 10 fun k c => ∃ q s t, Tails w q s t (xs.getD k zeroStep) ∧ ∀ j, j < 10 → c j = (stepCells (xs.getD k zeroStep) q s t)[j]?
theorem IntsAt.below {w w' : World} {v : Value} {xs : List Int} (h : IntsAt w v xs) (hb : Below w.heap.size w w') : IntsAt w' v xs := h.later hb fun _ _ _ h => h
theorem WordsAt.below {w w' : World} {v : Value} {xs : List (List UInt8)} (h : WordsAt w v xs) (hb : Below w.heap.size w w') : WordsAt w' v xs := h.later hb fun _ _ _ h => h
theorem QueriesAt.below {w w' : World} {v : Value} {xs : List Query} (h : QueriesAt w v xs) (hb : Below w.heap.size w w') : QueriesAt w' v xs := h.later hb fun _ _ _ h => h
theorem FatesAt.below {w w' : World} {v : Value} {xs : List Fate} (h : FatesAt w v xs) (hb : Below w.heap.size w w') : FatesAt w' v xs := h.later hb fun _ _ _ h => h
theorem Tails.below {w w' : World} {q s t : Value} {x : Step} (h : Tails w q s t x) (hb : Below w.heap.size w w') : Tails w' q s t x := ⟨h.1.below hb, h.2.1.below hb, h.2.2.below hb⟩
theorem StepsAt.below {w w' : World} {v : Value} {xs : List Step} (h : StepsAt w v xs) (hb : Below w.heap.size w w') : StepsAt w' v xs :=
 h.later hb fun _ _ _ ⟨q, s, t, h1, h2⟩ => ⟨q, s, t, h1.below hb, h2⟩
def StepV (w : World) (v : Value) (x : Step) : Prop := ∃ q s t, v = .agg (stepCells x q s t) ∧ Tails w q s t x
theorem StepV.below {w w' : World} {v : Value} {x : Step} (h : StepV w v x) (hb : Below w.heap.size w w') : StepV w' v x := by
 obtain ⟨q, s, t, hv, ht⟩ := h
 exact ⟨q, s, t, hv, ht.below hb⟩
def Lists (w : World) (a f p : Value) (x : Sched) : Prop := IntsAt w a x.state ∧ FatesAt w f x.fates ∧ StepsAt w p x.steps
theorem Lists.below {w w' : World} {a f p : Value} {x : Sched} (h : Lists w a f p x) (hb : Below w.heap.size w w') : Lists w' a f p x := ⟨h.1.below hb, h.2.1.below hb, h.2.2.below hb⟩
end Go.Proofs.YteokbngllldmdaaGreatDoor
namespace Go.Proofs.YteokbngllldmdaaGreatDoor
open Go.RowKit
structure Env (w : World) : Prop where
 tab : Lib.TabIs Tryz.prog w "internal/strconv.uint64pow10" .u64 Lib.pow10Tab
 syn : ∃ tp p, w.var? Tryz.prog "strconv.ErrSyntax" = some #[.iface tp p]
 ran : ∃ tp p, w.var? Tryz.prog "strconv.ErrRange" = some #[.iface tp p]
 ml : ∃ m, w.cell? ⟨0, 0, none⟩ = some (.int .i64 m)
theorem Tryz.gTab : Tryz.prog.globalNamed "internal/strconv.uint64pow10" = some 5 := by kernel_rfl
theorem Tryz.gSyn : Tryz.prog.globalNamed "strconv.ErrSyntax" = some 3 := by kernel_rfl
theorem Tryz.gRan : Tryz.prog.globalNamed "strconv.ErrRange" = some 4 := by kernel_rfl
theorem var_lt {P : Program} {w : World} {name : String} {g : Nat} {cs : Array Value} (hg : P.globalNamed name = some g) (h : w.var? P name = some cs) : g < w.heap.size := by
 apply Classical.byContradiction
 intro hn
 unfold World.var? at h
 rw [hg] at h
 simp only [Option.bind_some] at h
 rw [Array.getElem?_eq_none (Nat.le_of_not_lt hn)] at h
 cases h
theorem cell_lt {w : World} {g : Nat} {v : Value} (h : w.cell? ⟨g, 0, none⟩ = some v) : g < w.heap.size := by
 apply Classical.byContradiction
 intro hn
 unfold World.cell? at h
 rw [Array.getElem?_eq_none (Nat.le_of_not_lt hn)] at h
 cases h
theorem Env.below {w w' : World} (h : Env w) (hb : Below w.heap.size w w') : Env w' := by
 obtain ⟨h1, ⟨t2, p2, h2⟩, ⟨t3, p3, h3⟩, ⟨m, h4⟩⟩ := h
 exact ⟨var?_below hb Tryz.gTab (var_lt Tryz.gTab h1) h1, ⟨t2, p2, var?_below hb Tryz.gSyn (var_lt Tryz.gSyn h2) h2⟩, ⟨t3, p3, var?_below hb Tryz.gRan (var_lt Tryz.gRan h3) h3⟩, ⟨m, (hb.cell (cell_lt h4)).trans h4⟩⟩
namespace Pur
noncomputable def ctx : Ctx := ⟨Tryz.prog, Env, fun _ _ h hb => h.below hb, by kernel_rfl⟩
end Pur
end Go.Proofs.YteokbngllldmdaaGreatDoor
namespace Go.Proofs.YteokbngllldmdaaGreatDoor
open Go.RowKit
theorem tabIs_of_vars {P : Program} {W : World} {name : String} {k : IntKind} {zs : List Int} {g : Nat} {t e : TypeId} {n : Nat}
  (hg : P.globalNamed name = some g) (hty : (P.globals[g]?).map (·.type) = some t) (ht : P.underlying t = some (.array n e)) (he : P.underlying e = some (.int k)) (hce : P.cellsOf e = 1) (hct : P.cellsOf t = n) :
  ∀ (laid : List (String × DataW Unit)) (ps : List MemPlace), DataW.LaidVars P W laid ps → (name, Lib.tabData k zs) ∈ laid → Lib.TabIs P W name k zs := by
 intro laid
 induction laid with
 | nil => intro ps _ hm; cases hm
 | cons x rest ih =>
  intro ps h hm
  obtain ⟨nm, d⟩ := x
  obtain ⟨g', t', cs, fuel, p, q, hg', ht', hvar, hd, hrest, _⟩ := h
  rcases List.mem_cons.1 hm with hm | hm
  ·obtain ⟨rfl, rfl⟩ := Prod.mk.inj hm
   obtain rfl := Option.some.inj (hg.symm.trans hg')
   obtain rfl := Option.some.inj (hty.symm.trans ht')
   unfold Lib.TabIs
   rw [hvar, ← Lib.cells_of_tab ht he hce hct hd]
  ·exact ih q hrest hm
end Go.Proofs.YteokbngllldmdaaGreatDoor
namespace Go.Proofs.YteokbngllldmdaaGreatDoor
open Go.RowKit Go.WideShapes Go.ChangeShapes
theorem post_below {H : Type} {enc : TypeId × Value → H} {P : Program} {f : Func} {s : ChangeSpec} {apart fresh handsOn again : Bool} {W W' : World} {args : Array Value} {v : Value} {ds gs : List (DataW H)}
  {before pa pv : List MemPlace} (hW : DataW.Whole enc P f.params.toList s.vars apart W args.toList ds gs before)
  (hres : ∀ (b : Nat) (sp : Nat → Bool) (hd : Bool), DataW.TrodAll enc P W' b sp hd f.resultTypes.toList (v.resultList f.resultTypes.size) (s.fn H (ds ++ gs)).results [])
  (hargs : ∀ sp : Nat → Bool, (∀ p ∈ before, sp p.block = true) → DataW.TrodAll enc P W' 0 sp true f.params.toList args.toList (s.fn H (ds ++ gs)).args pa)
  (hvars : ∀ sp : Nat → Bool, (∀ p ∈ before, sp p.block = true) → DataW.TrodVars enc P W' sp s.vars (s.fn H (ds ++ gs)).vars pv)
  (hps : before = pa ++ pv) (hb : Below W.heap.size W W')
  (hok : ∀ (j : Nat) (t : TypeId) (r : Value), f.resultTypes[j]? = some t → (v.resultList f.resultTypes.size)[j]? = some r → Value.okWide P W' .any 0 t r) :
  s.post enc P f apart fresh handsOn again W args v W' := by
 have hblk : ∀ x ∈ before, x.block < W.heap.size := fun x hx => hW.lt x hx
 have hsp : ∀ x ∈ before, decide (x.block < W.heap.size) = true := fun x hx => decide_eq_true (hblk x hx)
 have hall : ∀ x ∈ before, (fun _ : Nat => true) x.block = true := fun _ _ => rfl
 have hframe : W.keptBut W' fun x => x ∈ before ∧ x ∈ ([] ++ pa) ++ pv ∨ False := by
  refine World.keptBut_mono (fun x hx => ?_) (hb.frame (· ∈ before))
  exact .inl ⟨hx, by rw [List.nil_append, ← hps]; exact hx⟩
 refine ⟨ds, gs, before, [], pa, pv, hW, hres _ _ _, hargs (fun b => decide (b < W.heap.size)) hsp, hvars (fun b => decide (b < W.heap.size)) hsp, World.keptBut_mono (fun x hx => ?_) hframe, fun _ => ?_⟩
 ·rcases hx with ⟨h1, h2⟩ | h
  ·refine ⟨h1, ?_⟩
   rw [List.nil_append, ← hps] at h2
   rw [hps, List.mem_append] at h1
   exact Or.inr h1
  ·exact h.elim
 ·obtain ⟨_, _, _, _, _, hfz, hnd⟩ := hW
  have hpl : before = ([] ++ pa) ++ pv := by rw [List.nil_append]; exact hps
  refine ⟨hok, _, _, ([] ++ pa) ++ pv, ⟨[] ++ pa, pv, trodAll_append (hargs _ hall) (hres _ _ _), hvars _ hall, rfl, fun b off hp => ?_, fun ha => ?_⟩, fun x hx _ => ?_⟩
  ·rw [← hpl] at hp
   rw [hb.frozen (p := ⟨b, off, none⟩) (hblk _ hp)]
   exact hfz b off hp
  ·rw [← hpl]; exact hnd ha
  ·rw [hpl]; exact hx
end Go.Proofs.YteokbngllldmdaaGreatDoor
namespace Go.Proofs.YteokbngllldmdaaGreatDoor
namespace Pur
theorem is_bool_inv {w : World} {S : Nat → Prop} {b : Bool} {v : Value} (h : Is w S (.bool b) v) : v = .bool b := by cases h; rfl
end Pur
end Go.Proofs.YteokbngllldmdaaGreatDoor
namespace Go.Proofs.YteokbngllldmdaaGreatDoor.Cd
open Go.ChangeShapes Go.WideShapes Go.ChangeAt Go.RowKit
theorem iface_of_vars {P : Program} {W : World} {name nm : String} {d : DataW Unit} {g : Nat} {t : TypeId} {ms : Array (String × TypeId)}
  (hg : P.globalNamed name = some g) (hty : (P.globals[g]?).map (·.type) = some t) (ht : P.underlying t = some (.interface ms)) :
  ∀ (laid : List (String × DataW Unit)) (ps : List MemPlace), DataW.LaidVars P W laid ps → (name, DataW.iface nm d) ∈ laid → ∃ tp p, W.var? P name = some #[.iface tp p] := by
 intro laid
 induction laid with
 | nil => intro ps _ hm; cases hm
 | cons x rest ih =>
  intro ps h hm
  obtain ⟨nm', d'⟩ := x
  obtain ⟨g', t', cs, fuel, p, q, hg', ht', hvar, hd, hrest, _⟩ := h
  rcases List.mem_cons.1 hm with hm | hm
  ·obtain ⟨rfl, rfl⟩ := Prod.mk.inj hm
   obtain rfl := Option.some.inj (hg.symm.trans hg')
   obtain rfl := Option.some.inj (hty.symm.trans ht')
   rw [hvar]
   obtain ⟨l⟩ := cs
   cases fuel with
   | zero => simp [DataW.trod] at hd
   | succ fuel =>
    simp only [DataW.trod, ht] at hd
    match l, hd with
    | [], hd => simp at hd
    | [v], hd =>
     cases v <;> simp at hd
     exact ⟨_, _, rfl⟩
    | _ :: _ :: _, hd => simp at hd
  ·exact ih q hrest hm
theorem int_of_shape {P : Program} {w : World} {g : Nat} {t : TypeId} {zero : Array Value} (h : w.ShapedOpen P) (hg : g < P.globals.size)
  (h0 : ((begin P (fun _ _ => 0) default).world.heap[g]?).bind Obj.row? = some (zero, t)) (hz : zero.size = 1)
  (hb : P.buildable t = true) (hc : P.cellTypes P.depth t = some [t]) (hu : P.underlying t = some (.int .i64)) : ∃ m, w.cell? ⟨g, 0, none⟩ = some (.int .i64 m) := by
 obtain ⟨cs, hh, hs, hr⟩ := h.1 g zero t hg h0
 obtain ⟨ts, hts, _, hall⟩ := hr hb
 rw [hc] at hts
 cases hts
 have h1 : 0 < cs.size := by omega
 obtain ⟨u, hu', hok⟩ := hall 0 cs[0] (by simp [h1])
 have : u = t := by simpa using hu'.symm
 subst this
 have hcell : w.cell? ⟨g, 0, none⟩ = some cs[0] := by simp [World.cell?, hh, h1]
 rw [hcell]
 unfold Cell.ok at hok
 rw [hu] at hok
 cases hv : cs[0] <;> rw [hv] at hok <;> first | (simp at hok; done) | skip
 obtain ⟨rfl, _⟩ := hok
 exact ⟨_, rfl⟩
theorem own : ownKnob Tryz.prog.godebug = none := by kernel_rfl
theorem gTabType : (Tryz.prog.globals[5]?).map (·.type) = some 171 := by kernel_rfl
theorem cellsTab : Tryz.prog.cellsOf 171 = 20 := by kernel_rfl
theorem cellsElem : Tryz.prog.cellsOf 159 = 1 := by kernel_rfl
theorem gSynType : (Tryz.prog.globals[3]?).map (·.type) = some 82 := by kernel_rfl
theorem gRanType : (Tryz.prog.globals[4]?).map (·.type) = some 82 := by kernel_rfl
theorem env_of {W : World} (h : laidMetH Tryz.prog Rows.scheduleParsesRow.laid W) (hsh : W.ShapedOpen Tryz.prog) : Env W := by
 obtain ⟨ps, hv, _⟩ : laidMet Tryz.prog Rows.scheduleParsesRow.laid W := h
 refine ⟨?_, ?_, ?_, ?_⟩
 ·exact tabIs_of_vars Tryz.gTab gTabType Tryz.underlying171 Tryz.underlying159 cellsElem cellsTab _ ps hv (by
   simp only [Rows.scheduleParsesRow, List.mem_cons, List.not_mem_nil, or_false]
   right; right; left; rfl)
 ·exact iface_of_vars (nm := "*errors.errorString") (d := .ptr (.agg [.lit (.string [105, 110, 118, 97, 108, 105, 100, 32, 115, 121, 110, 116, 97, 120])])) Tryz.gSyn gSynType Tryz.underlying82 _ ps hv (by
   simp only [Rows.scheduleParsesRow, List.mem_cons, List.not_mem_nil, or_false]
   right; right; right; right; right; left; rfl)
 ·exact iface_of_vars (nm := "*errors.errorString") (d := .ptr (.agg [.lit (.string [118, 97, 108, 117, 101, 32, 111, 117, 116, 32, 111, 102, 32, 114, 97, 110, 103, 101])])) Tryz.gRan gRanType Tryz.underlying82 _ ps hv (by
   simp only [Rows.scheduleParsesRow, List.mem_cons, List.not_mem_nil, or_false]
   right; right; right; right; left; rfl)
 ·exact int_of_shape (zero := #[.int .i64 0]) hsh (of_decide_eq_true (by kernel_rfl)) (t := 3) (by kernel_rfl) rfl (by kernel_rfl) (by kernel_rfl) Tryz.underlying3
end Go.Proofs.YteokbngllldmdaaGreatDoor.Cd
namespace Go.Proofs.YteokbngllldmdaaGreatDoor
namespace Pur
open Go.RowKit
section
open Go.RowKit Go.ChangeShapes Go.WideShapes Go.ChangeAt
def Typed (P : Program) (B : Nat) : Nat → TypeId → List PV → Prop
 | 0, _, _ => False
 | n + 1, t, l => match P.underlying t with
  | some .bool => ∃ b, l = [.bool b]
  | some (.int k) => ∃ x, l = [.int k x] ∧ (Lit.int k x).wf = true
  | some .string => ∃ s, l = [.str s] ∧ s.length ≤ B
  | some (.slice e) => ∃ m cs, l = [.sl m cs] ∧ m ≤ B ∧ cs.length = m * P.cellsOf e ∧ ∀ i, i < m → Typed P B n e ((cs.drop (i * P.cellsOf e)).take (P.cellsOf e))
  | some (.struct fs) => l.length = P.cellsOf t ∧ ∀ (i : Nat) f, fs[i]? = some f → Typed P B n f.type ((l.drop f.offset).take (P.cellsOf f.type))
  | _ => False
def consec (P : Program) : List Field → Nat → Nat → Bool
 | [], o, e => Nat.beq o e
 | f :: r, o, e => Nat.beq f.offset o && consec P r (o + P.cellsOf f.type) e
def shutT (P : Program) (L : List TypeId) : Bool := L.all fun t => match P.underlying t with
 | some .bool => true
 | some (.int _) => true
 | some .string => true
 | some (.slice e) => L.contains e && Nat.ble 1 (P.cellsOf e)
 | some (.struct fs) => fs.toList.all (fun f => L.contains f.type) && consec P fs.toList 0 (P.cellsOf t)
 | _ => false
structure Meas {H : Type} (B : Nat) (Sm : DataW H → Prop) : Prop where
 slice : ∀ l m, Sm (.slice l m) → l.length ≤ maxLen → l.length ≤ B ∧ ∀ d ∈ l, Sm d
 agg : ∀ l, Sm (.agg l) → ∀ d ∈ l, Sm d
 str : ∀ l, Sm (.lit (.string l)) → l.length ≤ maxLen → l.length ≤ B
theorem Meas.any {H : Type} : Meas maxLen (fun _ : DataW H => True) := ⟨fun _ _ _ h => ⟨h, fun _ _ => trivial⟩, fun _ _ _ _ => trivial, fun _ _ h => h⟩
section
variable {H : Type} {enc : TypeId × Value → H} {P : Program} {w : World} {B : Nat} {Sm : DataW H → Prop}
def Here (w : World) (g : Nat) : Prop := g < w.heap.size
theorem PW.app {α β : Type} {R : α → β → Prop} {l l' : List α} {m m' : List β} (h : PW R l m) (h' : PW R l' m') : PW R (l ++ l') (m ++ m') :=
 ⟨by simp [h.len, h'.len], fun i a b ha hb => by
  by_cases hi : i < l.length
  ·rw [List.getElem?_append_left hi] at ha
   rw [List.getElem?_append_left (by rw [← h.len]; exact hi)] at hb
   exact h.at_ i a b ha hb
  ·rw [List.getElem?_append_right (by omega)] at ha
   rw [List.getElem?_append_right (by rw [← h.len]; omega), ← h.len] at hb
   exact h'.at_ _ a b ha hb⟩
theorem cell_here {g o : Nat} {v : Value} (h : w.cell? ⟨g, o, none⟩ = some v) : g < w.heap.size := by
 apply Classical.byContradiction
 intro hn
 have : w.heap[g]? = none := Array.getElem?_eq_none (by omega)
 simp [World.cell?, this] at h
theorem pieces {α : Type} (z : Nat) (Q : Nat → List α → Prop) : ∀ (m : Nat), (∀ i, i < m → ∃ l : List α, l.length = z ∧ Q i l) → ∃ l : List α, l.length = m * z ∧ ∀ i, i < m → Q i ((l.drop (i * z)).take z)
 | 0, _ => ⟨[], by simp, fun i hi => absurd hi (Nat.not_lt_zero i)⟩
 | m + 1, h => by
  obtain ⟨l, hl, hq⟩ := pieces z Q m fun i hi => h i (by omega)
  obtain ⟨x, hx, hxq⟩ := h m (by omega)
  refine ⟨l ++ x, by rw [List.length_append, hl, hx, Nat.succ_mul], fun i hi => ?_⟩
  have hle : ∀ i, i < m → i * z + z ≤ m * z := fun i hi => by
   have := Nat.mul_le_mul_right z (show i + 1 ≤ m by omega)
   rwa [Nat.succ_mul] at this
  by_cases him : i < m
  ·have := hle i him
   rw [List.drop_append_of_le_length (by omega), List.take_append_of_le_length (by rw [List.length_drop]; omega)]
   exact hq i him
  ·have : i = m := by omega
   subst this
   rw [← hl, List.drop_left, List.take_of_length_le (by omega)]
   exact hxq
theorem piece_at {α : Type} {z m : Nat} {l : List α} (hl : l.length = m * z) {j : Nat} {x : α} (hx : l[j]? = some x) : j / z < m ∧ ((l.drop (j / z * z)).take z)[j % z]? = some x := by
 have hj : j < m * z := by rw [← hl]; exact (List.getElem?_eq_some_iff.mp hx).1
 have hz : 0 < z := by
  rcases Nat.eq_zero_or_pos z with h | h
  ·subst h; omega
  ·exact h
 refine ⟨Nat.div_lt_of_lt_mul (by rw [Nat.mul_comm]; exact hj), ?_⟩
 rw [List.getElem?_take, if_pos (Nat.mod_lt _ hz), List.getElem?_drop]
 have : j / z * z + j % z = j := by rw [Nat.mul_comm]; exact Nat.div_add_mod j z
 rw [this]
 exact hx
theorem open_fields {n : Nat} {cs : List Value} (ih : ∀ (t : TypeId) (cs : List Value), (∃ x, DataW.trod enc P w 0 (fun _ => true) true n t cs = some x ∧ Sm x.1) → ∀ L : List TypeId, shutT P L = true → t ∈ L → ∃ l, Typed P B n t l ∧ PW (Is w (Here w)) l cs ∧ ∀ c ∈ cs, c.oneCell' = true) (L : List TypeId) (hL : shutT P L = true) :
  ∀ (fs : List Field) (o e : Nat), consec P fs o e = true → (∀ f ∈ fs, f.type ∈ L) → (∀ f ∈ fs, ∃ x, DataW.trod enc P w 0 (fun _ => true) true n f.type ((cs.drop f.offset).take (P.cellsOf f.type)) = some x ∧ Sm x.1) → (∀ f ∈ fs, f.offset + P.cellsOf f.type ≤ cs.length) →
   o ≤ e ∧ ∃ l : List PV, PW (Is w (Here w)) l ((cs.drop o).take (e - o)) ∧ (∀ c ∈ (cs.drop o).take (e - o), c.oneCell' = true) ∧ ∀ f ∈ fs, o ≤ f.offset ∧ Typed P B n f.type ((l.drop (f.offset - o)).take (P.cellsOf f.type))
 | [], o, e, hc, _, _, _ => by
  simp only [consec] at hc
  have := Nat.eq_of_beq_eq_true hc
  subst this
  refine ⟨Nat.le_refl _, [], ?_, ?_, fun f hf => by cases hf⟩
  ·rw [Nat.sub_self, List.take_zero]
   exact ⟨rfl, fun i a b h => by simp at h⟩
  ·rw [Nat.sub_self, List.take_zero]
   intro c hc; cases hc
 | f :: r, o, e, hc, ht, hx, hb => by
  simp only [consec, Bool.and_eq_true] at hc
  have ho := Nat.eq_of_beq_eq_true hc.1
  obtain ⟨hle, l, h1, h2, h3⟩ := open_fields ih L hL r (o + P.cellsOf f.type) e hc.2 (fun g hg => ht g (List.mem_cons_of_mem _ hg)) (fun g hg => hx g (List.mem_cons_of_mem _ hg)) (fun g hg => hb g (List.mem_cons_of_mem _ hg))
  obtain ⟨x, hx0, hxs⟩ := hx f List.mem_cons_self
  have hbf := hb f List.mem_cons_self
  rw [ho] at hx0 hbf
  obtain ⟨m, k1, k2, k3⟩ := ih f.type _ ⟨x, hx0, hxs⟩ L hL (ht f List.mem_cons_self)
  have hml : m.length = P.cellsOf f.type := by rw [k2.len, List.length_take, List.length_drop]; omega
  have hsplit : (cs.drop o).take (e - o) = (cs.drop o).take (P.cellsOf f.type) ++ (cs.drop (o + P.cellsOf f.type)).take (e - (o + P.cellsOf f.type)) := by
   rw [show e - o = P.cellsOf f.type + (e - (o + P.cellsOf f.type)) by omega, List.take_add, List.drop_drop]
  refine ⟨by omega, m ++ l, ?_, ?_, fun g hg => ?_⟩
  ·rw [hsplit]; exact k2.app h1
  ·rw [hsplit]
   intro c hc
   rcases List.mem_append.mp hc with hc | hc
   ·exact k3 c hc
   ·exact h2 c hc
  ·cases hg with
   | head =>
    refine ⟨by omega, ?_⟩
    rw [ho, Nat.sub_self, List.drop_zero, ← hml, List.take_left]
    exact k1
   | tail _ hg =>
    obtain ⟨g1, g2⟩ := h3 g hg
    refine ⟨by omega, ?_⟩
    rw [List.drop_append, hml, List.drop_eq_nil_of_le (by omega), List.nil_append, show g.offset - o - P.cellsOf f.type = g.offset - (o + P.cellsOf f.type) by omega]
    exact g2
theorem open_cells (hM : Meas B Sm) : ∀ (n : Nat) (t : TypeId) (cs : List Value), (∃ x, DataW.trod enc P w 0 (fun _ => true) true n t cs = some x ∧ Sm x.1) → ∀ L : List TypeId, shutT P L = true → t ∈ L →
  ∃ l, Typed P B n t l ∧ PW (Is w (Here w)) l cs ∧ ∀ c ∈ cs, c.oneCell' = true
 | 0, t, cs, ⟨x, h, _⟩, _, _, _ => by simp [DataW.trod] at h
 | n + 1, t, cs, ⟨x, h, hsm⟩, L, hL, ht => by
  have hsh := List.all_eq_true.mp hL t ht
  have one : ∀ {p : PV} {v : Value}, Is w (Here w) p v → PW (Is w (Here w)) [p] [v] := fun {p v} h => ⟨rfl, fun i a b ha hb => by
   match i, ha, hb with
   | 0, ha, hb => simp at ha hb; subst ha hb; exact h⟩
  cases hu : P.underlying t with
  | none => rw [hu] at hsh; cases hsh
  | some d =>
   rw [hu] at hsh
   cases d with
   | bool =>
    obtain ⟨b, rfl, -⟩ := DataW.trod_bool hu h
    exact ⟨[.bool b], by simp only [Typed, hu]; exact ⟨b, rfl⟩, one (.bool b), fun c hc => by simp at hc; subst hc; rfl⟩
   | int k =>
    obtain ⟨m, rfl, -, hw⟩ := DataW.trod_int hu h
    exact ⟨[.int k m], by simp only [Typed, hu]; exact ⟨m, rfl, hw⟩, one (.int k m), fun c hc => by simp at hc; subst hc; rfl⟩
   | string =>
    obtain ⟨s, rfl, rfl, hs⟩ := DataW.trod_string hu h
    exact ⟨[.str s.data.toList], by simp only [Typed, hu]; exact ⟨_, rfl, hM.str _ hsm (by rw [Array.length_toList]; exact hs)⟩, one (is_str w _ s), fun c hc => by simp at hc; subst hc; rfl⟩
   | slice e =>
    simp only [Bool.and_eq_true] at hsh
    have he : e ∈ L := by simpa using hsh.1
    have hz := Nat.le_of_ble_eq_true hsh.2
    rcases DataW.trod_slice hu h with ⟨rfl, -⟩ | ⟨a, len, cap, elems, rest, n', hn, rfl, rfl, -, hlc, hcm, hlen, hel, -, -⟩
    ·exact ⟨[.sl 0 []], by simp only [Typed, hu]; exact ⟨0, [], rfl, Nat.zero_le _, (Nat.zero_mul _).symm, fun i hi => absurd hi (Nat.not_lt_zero i)⟩, one .sl0, fun c hc => by simp at hc; subst hc; rfl⟩
    ·injection hn with hn
     subst hn
     obtain ⟨hmB, hms⟩ := hM.slice _ _ hsm (by rw [List.length_map]; omega)
     rw [List.length_map, hlen] at hmB
     have each : ∀ i, i < len → ∃ cs, (w.cells? 0 (a.add (i * P.cellsOf e)) (P.cellsOf e)) = some cs ∧ ∃ l, Typed P B n e l ∧ PW (Is w (Here w)) l cs ∧ ∀ c ∈ cs, c.oneCell' = true := fun i hi => by
      have h1 := hel i hi
      have h2 : ∃ y, elems[i]? = some y := ⟨elems[i]'(by omega), List.getElem?_eq_getElem (by omega)⟩
      obtain ⟨y, hy⟩ := h2
      rw [hy] at h1
      obtain ⟨cs, hc1, hc2⟩ := Option.bind_eq_some_iff.mp h1
      exact ⟨cs, hc1, open_cells hM n e cs ⟨y, hc2, hms _ (List.mem_map_of_mem (List.mem_of_getElem? hy))⟩ L hL he⟩
     cases len with
     | zero => exact ⟨[.sl 0 []], by simp only [Typed, hu]; exact ⟨0, [], rfl, Nat.zero_le _, (Nat.zero_mul _).symm, fun i hi => absurd hi (Nat.not_lt_zero i)⟩, one (.slz a cap hcm), fun c hc => by simp at hc; subst hc; rfl⟩
     | succ len =>
      have hspot : a.spot = none := by
       obtain ⟨cs, hc, -⟩ := each 0 (by omega)
       obtain ⟨-, hcl, hcell⟩ := World.cells?_some hc
       have h0 := hcell 0 (by omega)
       rw [List.getElem?_eq_getElem (by omega)] at h0
       have h1 := World.cell?_spot h0
       obtain ⟨b, o, sp⟩ := a
       cases sp with
       | none => rfl
       | some q => simp [Addr.add] at h1
      obtain ⟨b, o, sp⟩ := a
      subst hspot
      obtain ⟨l, hl, hq⟩ := pieces (P.cellsOf e) (fun i l => Typed P B n e l ∧ ∀ (j : Nat) p, l[j]? = some p → ∃ v, w.cell? ⟨b, o + (i * P.cellsOf e + j), none⟩ = some v ∧ Is w (Here w) p v ∧ v.oneCell' = true) (len + 1) fun i hi => by
       obtain ⟨cs, hc, l, k1, k2, k3⟩ := each i hi
       obtain ⟨-, hcl, hcell⟩ := World.cells?_some hc
       refine ⟨l, by rw [k2.len, hcl], k1, fun j p hp => ?_⟩
       have hj : j < l.length := (List.getElem?_eq_some_iff.mp hp).1
       have hjc : j < cs.length := by rw [← k2.len]; exact hj
       have h0 := hcell j (by omega)
       rw [List.getElem?_eq_getElem hjc, show ((⟨b, o, none⟩ : Addr).add (i * P.cellsOf e)).add j = ⟨b, o + (i * P.cellsOf e + j), none⟩ by rw [add_plain, add_plain, Nat.add_assoc]] at h0
       exact ⟨_, h0, k2.at_ j p _ hp (List.getElem?_eq_getElem hjc), k3 _ (List.getElem_mem hjc)⟩
      have key : ∀ (i : Nat) p, l[i]? = some p → ∃ v, w.cell? ⟨b, o + i, none⟩ = some v ∧ Is w (Here w) p v ∧ v.oneCell' = true := fun i p hp => by
       obtain ⟨g1, g2⟩ := piece_at hl hp
       obtain ⟨v, h1, h2, h3⟩ := (hq _ g1).2 _ p g2
       have : i / P.cellsOf e * P.cellsOf e + i % P.cellsOf e = i := by rw [Nat.mul_comm]; exact Nat.div_add_mod i _
       rw [this] at h1
       exact ⟨v, h1, h2, h3⟩
      have hb : Here w b := by
       have : 0 < l.length := by rw [hl]; exact Nat.mul_pos (by omega) (by omega)
       obtain ⟨v, h1, -⟩ := key 0 _ (List.getElem?_eq_getElem this)
       exact cell_here h1
      refine ⟨[.sl (len + 1) l], by simp only [Typed, hu]; exact ⟨_, _, rfl, hmB, hl, fun i hi => (hq i hi).1⟩, one ?_, fun c hc => by simp at hc; subst hc; rfl⟩
      refine .sl (len + 1) l b o cap (fun i => (w.cell? ⟨b, o + i, none⟩).getD undef) hb hlc hcm (fun i p hp => ?_) (fun i p hp => ?_) fun i p hp => ?_
      ·obtain ⟨v, h1, -, -⟩ := key i p hp
       rw [h1]; rfl
      ·obtain ⟨v, h1, -, h3⟩ := key i p hp
       rw [h1]; exact h3
      ·obtain ⟨v, h1, h2, -⟩ := key i p hp
       rw [h1]; exact h2
   | struct fs =>
    simp only [Bool.and_eq_true] at hsh
    obtain ⟨xs, n', hn, rfl, hcl, hxl, hat⟩ := DataW.trod_struct hu h
    injection hn with hn
    subst hn
    have hin : ∀ f ∈ fs.toList, f.type ∈ L := fun f hf => by simpa using List.all_eq_true.mp hsh.1 f hf
    have hx : ∀ f ∈ fs.toList, ∃ x, DataW.trod enc P w 0 (fun _ => true) true n f.type ((cs.drop f.offset).take (P.cellsOf f.type)) = some x ∧ Sm x.1 := fun f hf => by
     obtain ⟨i, hi⟩ := List.mem_iff_getElem?.mp hf
     have hfi : fs[i]? = some f := by rw [← Array.getElem?_toList]; exact hi
     have h1 := hat i f hfi
     have hil : i < xs.length := by rw [hxl]; exact (Array.getElem?_eq_some_iff.mp hfi).1
     exact ⟨xs[i], by rw [h1, List.getElem?_eq_getElem hil], hM.agg _ hsm _ (List.mem_map_of_mem (List.getElem_mem hil))⟩
    have bound : ∀ (fs : List Field) (o e : Nat), consec P fs o e = true → o ≤ e ∧ ∀ f ∈ fs, f.offset + P.cellsOf f.type ≤ e := by
     intro fs
     induction fs with
     | nil =>
      intro o e h
      simp only [consec] at h
      have := Nat.eq_of_beq_eq_true h
      exact ⟨by omega, fun f hf => by cases hf⟩
     | cons f r ih =>
      intro o e h
      simp only [consec, Bool.and_eq_true] at h
      have h1 := Nat.eq_of_beq_eq_true h.1
      obtain ⟨g1, g2⟩ := ih _ e h.2
      refine ⟨by omega, fun g hg => ?_⟩
      cases hg with
      | head => omega
      | tail _ hg => exact g2 g hg
    obtain ⟨-, l, k1, k2, k3⟩ := open_fields (fun t cs hx L hL ht => open_cells hM n t cs hx L hL ht) L hL fs.toList 0 (P.cellsOf t) hsh.2 hin hx (fun f hf => by rw [hcl]; exact (bound _ _ _ hsh.2).2 f hf)
    rw [List.drop_zero, Nat.sub_zero, List.take_of_length_le (by omega)] at k1 k2
    refine ⟨l, ?_, k1, k2⟩
    simp only [Typed, hu]
    refine ⟨by rw [k1.len, hcl], fun i f hf => ?_⟩
    have := (k3 f (List.mem_iff_getElem?.mpr ⟨i, by rw [Array.getElem?_toList]; exact hf⟩)).2
    simpa using this
   | _ => cases hsh
def TypedV (P : Program) (B : Nat) (t : TypeId) (p : PV) : Prop := ∃ n l, Typed P B n t l ∧ (bif (match P.underlying t with | some (.struct _) => true | _ => false) then p = .agg l else l = [p])
def TypedAll (P : Program) (B : Nat) : List TypeId → List PV → Prop
 | [], [] => True
 | t :: ts, p :: ps => TypedV P B t p ∧ TypedAll P B ts ps
 | _, _ => False
theorem open_value (hM : Meas B Sm) {L : List TypeId} (hL : shutT P L = true) {t : TypeId} (ht : t ∈ L) {r : Reach} {b : Nat} {v : Value} {d : DataW H} {ps : List MemPlace} (hv : Value.okWide P w r b t v) (h : DataW.Trod enc P w 0 (fun _ => true) true t v d ps) (hs : Sm d) :
  ∃ p, TypedV P B t p ∧ Is w (Here w) p v := by
 obtain ⟨n, h⟩ := h
 obtain ⟨l, h1, h2, -⟩ := open_cells hM n t _ ⟨_, h, hs⟩ L hL ht
 cases n with
 | zero => exact h1.elim
 | succ n =>
 have hsh := List.all_eq_true.mp hL t ht
 unfold Value.okWide at hv
 cases hu : P.underlying t with
 | none => rw [hu] at hsh; cases hsh
 | some d =>
  rw [hu] at hsh hv
  have leaf : (∀ fs, d ≠ .struct fs) → (∃ p, l = [p]) → (∀ cs, v ≠ .agg cs) → ∃ p, TypedV P B t p ∧ Is w (Here w) p v := fun hd hp hc => by
   obtain ⟨p, rfl⟩ := hp
   have hcells : v.cells = #[v] := by
    cases v <;> first | rfl | exact absurd rfl (hc _)
   rw [hcells] at h2
   refine ⟨p, ⟨n + 1, [p], h1, ?_⟩, h2.at_ 0 p v rfl rfl⟩
   rw [hu]
   cases d <;> first | rfl | exact absurd rfl (hd _)
  cases d with
  | struct fs =>
   obtain ⟨cs, rfl, -⟩ := hv
   refine ⟨.agg l, ⟨n + 1, l, h1, by rw [hu]; rfl⟩, ?_⟩
   have := Is.agg (w := w) (S := Here w) l cs.toList h2.len h2.at_
   simpa using this
  | bool =>
   simp only [Typed, hu] at h1
   obtain ⟨x, rfl⟩ := h1
   refine leaf (by simp) ⟨_, rfl⟩ fun cs hc => ?_
   subst hc
   simp [Cell.okWide, hu, Cell.ok] at hv
  | int k =>
   simp only [Typed, hu] at h1
   obtain ⟨x, rfl, -⟩ := h1
   refine leaf (by simp) ⟨_, rfl⟩ fun cs hc => ?_
   subst hc
   simp [Cell.okWide, hu, Cell.ok] at hv
  | string =>
   simp only [Typed, hu] at h1
   obtain ⟨x, rfl, -⟩ := h1
   refine leaf (by simp) ⟨_, rfl⟩ fun cs hc => ?_
   subst hc
   simp [Cell.okWide, hu, Cell.ok] at hv
  | slice e =>
   simp only [Typed, hu] at h1
   obtain ⟨m, x, rfl, -⟩ := h1
   refine leaf (by simp) ⟨_, rfl⟩ fun cs hc => ?_
   subst hc
   simp [Cell.okWide, hu, Cell.ok] at hv
  | _ => cases hsh
theorem open_all (hM : Meas B Sm) {L : List TypeId} (hL : shutT P L = true) {r : Reach} {b : Nat} : ∀ (ts : List TypeId) (vs : List Value) (ds : List (DataW H)) (ps : List MemPlace), (∀ t ∈ ts, t ∈ L) → (∀ (j : Nat) t v, ts[j]? = some t → vs[j]? = some v → Value.okWide P w r b t v) → DataW.TrodAll enc P w 0 (fun _ => true) true ts vs ds ps → (∀ d ∈ ds, Sm d) →
  ∃ qs, TypedAll P B ts qs ∧ PW (Is w (Here w)) qs vs
 | [], vs, ds, ps, _, _, h, _ => by
  obtain ⟨rfl, rfl, rfl⟩ := trodAll_nil h
  exact ⟨[], trivial, rfl, fun i a b h => by simp at h⟩
 | t :: ts, vs, ds, ps, ht, hv, h, hs => by
  obtain ⟨v, vs', d, ds', p, q, rfl, rfl, rfl, h0, h1⟩ := trodAll_cons h
  obtain ⟨x, x1, x2⟩ := open_value hM hL (ht t List.mem_cons_self) (hv 0 t v rfl rfl) h0 (hs d List.mem_cons_self)
  obtain ⟨qs, y1, y2⟩ := open_all hM hL ts vs' ds' q (fun t h => ht t (List.mem_cons_of_mem _ h)) (fun j t v h1 h2 => hv (j + 1) t v h1 h2) h1 (fun d h => hs d (List.mem_cons_of_mem _ h))
  refine ⟨x :: qs, ⟨x1, y1⟩, by simp [y2.len], fun i a b ha hb => ?_⟩
  cases i with
  | zero => simp at ha hb; subst ha hb; exact x2
  | succ i => exact y2.at_ i a b (by simpa using ha) (by simpa using hb)
theorem stay_all (hl : laidOutB P = true) {w' : World} {sp : Nat → Bool} : ∀ (ts : List TypeId) (vs : List Value) (ds : List (DataW H)) (ps : List MemPlace), (∀ t ∈ ts, P.readableRec t = true ∧ t < P.types.size) → (∀ p ∈ ps, w.sameAt w' p) → (∀ p ∈ ps, sp p.block = true) → DataW.TrodAll enc P w 0 (fun _ => true) true ts vs ds ps →
  DataW.TrodAll enc P w' 0 sp true ts vs ds ps
 | [], vs, ds, ps, _, _, _, h => by
  obtain ⟨rfl, rfl, rfl⟩ := trodAll_nil h
  exact trodAll_mk0
 | t :: ts, vs, ds, ps, ht, hs, hsp, h => by
  obtain ⟨v, vs', d, ds', p, q, rfl, rfl, rfl, h0, h1⟩ := trodAll_cons h
  exact ⟨p, q, Go.WideElems.Trod_stays hl (ht t List.mem_cons_self).1 (ht t List.mem_cons_self).2 h0 (fun x hx => hs x (List.mem_append_left _ hx)) (fun x hx => hsp x (List.mem_append_left _ hx)),
   stay_all hl ts vs' ds' q (fun t h => ht t (List.mem_cons_of_mem _ h)) (fun x hx => hs x (List.mem_append_right _ hx)) (fun x hx => hsp x (List.mem_append_right _ hx)) h1, rfl⟩
theorem same_below {w' : World} (hb : Below w.heap.size w w') {p : MemPlace} (hp : p.block < w.heap.size) : w.sameAt w' p := by
 cases p with
 | cell b o => exact World.cell?_of_block (hb.block b hp)
 | map b => exact hb.block b hp
end
end
section
theorem bulk_one {H : Type} (d : DataW H) : 1 ≤ Rows.uptoBulk d := by
 cases d with
 | lit l => cases l <;> simp [Rows.uptoBulk]
 | _ => simp [Rows.uptoBulk]
theorem bulk_part {H : Type} : ∀ {l : List (DataW H)} {d : DataW H}, d ∈ l → Rows.uptoBulk d ≤ Rows.uptoBulkAll l
 | x :: r, d, h => by
  simp only [Rows.uptoBulkAll]
  rcases List.mem_cons.1 h with rfl | h
  ·omega
  ·have := bulk_part h; omega
theorem bulk_len {H : Type} : ∀ (l : List (DataW H)), l.length ≤ Rows.uptoBulkAll l
 | [] => by simp [Rows.uptoBulkAll]
 | x :: r => by have := bulk_one x; have := bulk_len r; simp only [Rows.uptoBulkAll, List.length_cons]; omega
theorem Meas.upto {H : Type} : Meas 1048576 (fun d : DataW H => Rows.uptoBulk d ≤ 1048576) := by
 refine ⟨fun l m h _ => ?_, fun l h d hd => ?_, fun l h _ => ?_⟩
 ·simp only [Rows.uptoBulk] at h
  have := bulk_len l
  exact ⟨by omega, fun d hd => by have := bulk_part hd; omega⟩
 ·simp only [Rows.uptoBulk] at h
  have := bulk_part hd
  omega
 ·simp only [Rows.uptoBulk] at h
  omega
theorem upto_all {H : Type} {l : List (DataW H)} (hk : Rows.uptoSmall H l = true) : ∀ d ∈ l, Rows.uptoBulk d ≤ 1048576 := fun d hd => by
 have h1 : Rows.uptoBulkAll l ≤ 1048576 := of_decide_eq_true hk
 have := bulk_part hd
 omega
end
end Pur
end Go.Proofs.YteokbngllldmdaaGreatDoor

namespace Go.Proofs.YteokbngllldmdaaGreatDoor
namespace Pur
open Go.RowKit
section
section
variable {P : Program} {B n : Nat}
theorem ty_int {t : TypeId} {k : IntKind} {l : List PV} (h : Typed P B n t l) (hu : P.underlying t = some (.int k)) : ∃ x, l = [.int k x] ∧ (Lit.int k x).wf = true := by
 cases n with
 | zero => exact h.elim
 | succ n => simpa only [Typed, hu] using h
theorem ty_bool {t : TypeId} {l : List PV} (h : Typed P B n t l) (hu : P.underlying t = some .bool) : ∃ b, l = [.bool b] := by
 cases n with
 | zero => exact h.elim
 | succ n => simpa only [Typed, hu] using h
theorem ty_struct {t : TypeId} {fs : Array Field} {l : List PV} (h : Typed P B n t l) (hu : P.underlying t = some (.struct fs)) : l.length = P.cellsOf t ∧ ∃ m, n = m + 1 ∧ ∀ (i : Nat) f, fs[i]? = some f → Typed P B m f.type ((l.drop f.offset).take (P.cellsOf f.type)) := by
 cases n with
 | zero => exact h.elim
 | succ n =>
  simp only [Typed, hu] at h
  exact ⟨h.1, n, rfl, h.2⟩
theorem piece {m : Nat} {fs : Array Field} {l : List PV} (hf : ∀ (i : Nat) f, fs[i]? = some f → Typed P B m f.type ((l.drop f.offset).take (P.cellsOf f.type))) (i o : Nat) (t : TypeId) {z : Nat} (hz : P.cellsOf t = z) (hi : (fs[i]?).map (fun f => (f.offset, f.type)) = some (o, t)) :
  Typed P B m t ((l.drop o).take z) := by
 obtain ⟨f, h1, h2⟩ := Option.map_eq_some_iff.mp hi
 injection h2 with h2 h3
 have := hf i f h1
 rw [h2, h3, hz] at this
 exact this
theorem rows_of {α : Type} (z : Nat) (enc : α → List PV) (Q : α → Prop) (he : ∀ x, Q x → (enc x).length = z) : ∀ (m : Nat) (cs : List PV), cs.length = m * z → (∀ i, i < m → ∃ x, (cs.drop (i * z)).take z = enc x ∧ Q x) → ∃ xs : List α, xs.length = m ∧ cs = xs.flatMap enc ∧ ∀ x ∈ xs, Q x
 | 0, cs, hl, _ => by
  have : cs = [] := List.eq_nil_of_length_eq_zero (by simpa using hl)
  subst this
  exact ⟨[], rfl, rfl, fun x hx => by cases hx⟩
 | m + 1, cs, hl, h => by
  obtain ⟨x, hx, hq⟩ := h 0 (by omega)
  rw [Nat.zero_mul, List.drop_zero] at hx
  rw [Nat.succ_mul] at hl
  obtain ⟨xs, h1, h2, h3⟩ := rows_of z enc Q he m (cs.drop z) (by rw [List.length_drop]; omega) fun i hi => by
   have := h (i + 1) (by omega)
   rw [List.drop_drop, show z + i * z = (i + 1) * z by rw [Nat.succ_mul]; omega]
   exact this
  refine ⟨x :: xs, by simp [h1], ?_, fun y hy => ?_⟩
  ·rw [List.flatMap_cons, ← h2, ← hx, List.take_append_drop]
  ·rcases List.mem_cons.mp hy with rfl | hy
   ·exact hq
   ·exact h3 y hy
theorem ty_slice {α : Type} {t e : TypeId} {l : List PV} (h : Typed P B n t l) (hu : P.underlying t = some (.slice e)) {z : Nat} (hz : P.cellsOf e = z) (enc : α → List PV) (Q : α → Prop) (he : ∀ x, Q x → (enc x).length = z)
  (hd : ∀ m c, m < n → Typed P B m e c → ∃ x, c = enc x ∧ Q x) : ∃ xs : List α, l = [.sl xs.length (xs.flatMap enc)] ∧ xs.length ≤ B ∧ ∀ x ∈ xs, Q x := by
 cases n with
 | zero => exact h.elim
 | succ n =>
  simp only [Typed, hu, hz] at h
  obtain ⟨m, cs, rfl, hm, hl, hi⟩ := h
  obtain ⟨xs, h1, h2, h3⟩ := rows_of z enc Q he m cs hl fun i him => hd n _ (by omega) (hi i him)
  subst h1 h2
  exact ⟨xs, rfl, hm, h3⟩
theorem ty_leaf {t : TypeId} {p : PV} (h : TypedV P B t p) (hn : ∀ fs, P.underlying t ≠ some (.struct fs)) : ∃ n, Typed P B n t [p] := by
 obtain ⟨n, l, h1, h2⟩ := h
 cases hu : P.underlying t with
 | none => rw [hu] at h2; subst h2; exact ⟨n, h1⟩
 | some d =>
  rw [hu] at h2
  cases d <;> first | exact absurd hu (hn _) | (subst h2; exact ⟨n, h1⟩)
theorem ty_agg {t : TypeId} {p : PV} {fs : Array Field} (h : TypedV P B t p) (hu : P.underlying t = some (.struct fs)) : ∃ n l, Typed P B n t l ∧ p = .agg l := by
 obtain ⟨n, l, h1, h2⟩ := h
 rw [hu] at h2
 exact ⟨n, l, h1, h2⟩
theorem wf_i64 {x : Int} (h : (Lit.int .i64 x).wf = true) : -9223372036854775808 ≤ x ∧ x ≤ 9223372036854775807 := by
 simp only [Lit.wf, Bool.and_eq_true, decide_eq_true_eq] at h
 have e1 : IntKind.i64.min = -9223372036854775808 := rfl
 have e2 : IntKind.i64.max = 9223372036854775807 := rfl
 omega
end
end
end Pur
end Go.Proofs.YteokbngllldmdaaGreatDoor
namespace Go.Proofs.YteokbngllldmdaaGreatDoor
namespace Pur
open Go.RowKit
attribute [local go_sem] evOps evOp evOpV evRun evK argF List.map hintAt stripped get put tmpsOf tmpOf tmpO tmpL tmpP conds ev cond_true cond_false Nat.beq Nat.ble Nat.add quiet After thenR blockR IfD List.append_eq List.nil_append List.cons_append evInt exactI_a exactI_b exactI_c exactI_d exactI_e exactI_f evBin evStr evBool evUn guardC calm quiet.isCallK evPick List.getElem?_cons_zero List.getElem?_cons_succ fromCells fromPVs cellsOf List.all oneCell List.length_cons List.length_nil mkAgg plains List.drop List.take List.getD Option.getD_some bo1 bo2 ba1 ba2 bn1 bn2 kk_i64 kk_u8 kk_i32 kk_u64 setAt List.set Nat.reduceAdd Nat.reduceMul evCall safeCall refsOf refsIn scalarA scalar scalarL thawL mapAll thawArg thawRef after freeze RetD RetE evResult evRess evRes1 thaw_pv mkTup nilOf_a nilOf_b nilOf_bb nilOf_c nilOf_d nilOf_e nilOf_f nilOf_g nilOf_h nilOf_i nilOf_j nilOf_k nilOf_l nilOf_m eqLeaf_a eqLeaf_b eqLeaf_c eqOffs evMM bytesOf evOpsF AfterF footOf footRefs notIn indepF footAt freeOk still evParts fillA zeros intOfA boundA srcOf List.isEmpty appNil_0 appNil_1 appNil_2 Int.reduceToNat Nat.mul_one Nat.reduceSub evC evOpsT evOpsTF autoH tabHint look hintD strip guarded RetPD RetRD mpLen keysOk leafKA leafK bitI nilOf_n nilOf_o Bool.or_false Bool.or_true Bool.and_true Bool.and_false Nat.blt renF renM renB renV idxOf solF solM solA solV thawRef ev1
section
open Sch
def c69 : ACode := (⟨_, by conv => (lhs; reduce; try simp only [lt1, Int.cast_ofNat_Int, Int.reduceNegSucc, UInt8.reduceOfNat])⟩ : {x // codeOf Tryz.prog 69 (fun _ => false) = some x}).1
theorem fn69 : fnOf Tryz.prog 69 (fun _ => false) = some (c69, [.t 6], 15, true) := by kernel_rfl
def c41 : ACode := (⟨_, by conv => (lhs; reduce; try simp only [lt1, Int.cast_ofNat_Int, Int.reduceNegSucc, UInt8.reduceOfNat])⟩ : {x // codeOf Tryz.prog 41 (fun _ => false) = some x}).1
theorem fn41 : fnOf Tryz.prog 41 (fun _ => false) = some (c41, [.t 2], 31, true) := by kernel_rfl
def c96 : ACode := (⟨_, by conv => (lhs; reduce; try simp only [lt1, Int.cast_ofNat_Int, Int.reduceNegSucc, UInt8.reduceOfNat])⟩ : {x // codeOf Tryz.prog 96 (fun _ => false) = some x}).1
theorem fn96 : fnOf Tryz.prog 96 (fun _ => false) = some (c96, [.t 4], 10, true) := by kernel_rfl
def c115 : ACode := (⟨_, by conv => (lhs; reduce; try simp only [lt1, Int.cast_ofNat_Int, Int.reduceNegSucc, UInt8.reduceOfNat])⟩ : {x // codeOf Tryz.prog 115 (fun _ => false) = some x}).1
theorem fn115 : fnOf Tryz.prog 115 (fun _ => false) = some (c115, [.t 4], 19, true) := by kernel_rfl
def c95 : ACode := (⟨_, by conv => (lhs; reduce; try simp only [lt1, Int.cast_ofNat_Int, Int.reduceNegSucc, UInt8.reduceOfNat])⟩ : {x // codeOf Tryz.prog 95 (fun _ => false) = some x}).1
theorem fn95 : fnOf Tryz.prog 95 (fun _ => false) = some (c95, [.t 4], 9, true) := by kernel_rfl
def c70 : ACode := (⟨_, by conv => (lhs; reduce; try simp only [lt1, Int.cast_ofNat_Int, Int.reduceNegSucc, UInt8.reduceOfNat])⟩ : {x // codeOf Tryz.prog 70 (fun _ => false) = some x}).1
theorem fn70 : fnOf Tryz.prog 70 (fun _ => false) = some (c70, [.t 6], 11, true) := by kernel_rfl
theorem between_ok (n lo hi : Int) : PureOK ctx 69 [.int .i64 n, .int .i64 lo, .int .i64 hi] (.bool (between n lo hi)) := by
 refine pure_body (C := ctx) (Fn.of fn69 rfl) rfl ?_
 refine aw_rs true [] ?_
 dsimp only [go_sem]
 refine ⟨trivial, trivial, ?_⟩
 refine aw_rs true [] ?_
 dsimp only [go_sem]
 refine ⟨trivial, by simp [All, VCs], ?_⟩
 refine aw_retP ?_
 dsimp only [go_sem]
 refine ⟨trivial, ?_⟩
 unfold between
 cases decide (lo ≤ n) <;> rfl
def fateP (f : Fate) : PV := .agg [.bool f.drop, .int .i64 f.delay, .int .i64 f.again]
theorem valid_ok (f : Fate) : PureOK ctx 41 [fateP f] (.bool (fateOk f)) := by
 obtain ⟨drop, d, n⟩ := f
 refine pure_body (C := ctx) (Fn.of fn41 rfl) rfl ?_
 refine aw_rs true [] ?_
 dsimp only [fateP, go_sem]
 refine ⟨trivial, trivial, ?_⟩
 refine aw_sss ?_
 refine aw_reg true [] ?_
 dsimp only [go_sem]
 refine ⟨by simp [VCs], trivial, ?_⟩
 refine aw_if ?_
 dsimp only [go_sem]
 refine ⟨fun h => ?_, fun h => ?_⟩
 ·subst h
  refine aw_rs true [] ?_
  dsimp only [go_sem]
  refine ⟨by simp [VCs], by simp [All, VCs], ?_⟩
  refine aw_retT ?_
  dsimp only [go_sem]
  refine ⟨trivial, ?_⟩
  simp only [fateOk, cond_and, if_true]
  rfl
 ·subst h
  refine aw_skip ?_
  dsimp only [go_sem]
  refine aw_rs true [] ?_
  dsimp only [go_sem]
  refine ⟨by simp [VCs], by simp [All, VCs], ?_⟩
  refine aw_retP ?_
  dsimp only [go_sem]
  refine ⟨trivial, ?_⟩
  simp [fateOk, between, cond_and, Bool.and_assoc]
end
end Pur
end Go.Proofs.YteokbngllldmdaaGreatDoor
namespace Go.Proofs
open Go.Shelf
def Tryz.lays169_ren : Go.Shelf.Ren := ⟨fun | 169 => 47 | n => n, fun | 70 => 77 | 9 => 9 | 0 => 0 | 72 => 80 | 37 => 78 | 127 => 123 | 3 => 3 | 5 => 5 | n => n, fun | n => n⟩
theorem Tryz.lays169 : Go.Proofs.Lays.n169 Tryz.prog Tryz.lays169_ren := {
 mixed := by kernel_rfl
 f169 := Tryz.func47.trans (congrArg some (by kernel_rfl))
 t0 := Tryz.underlying0
 a0 := Tryz.isAgg0
 z0 := Tryz.sizeOf0
 v0 := Tryz.zeroValue0
 t3 := Tryz.underlying3
 a3 := Tryz.isAgg3
 z3 := Tryz.sizeOf3
 v3 := Tryz.zeroValue3
 t9 := Tryz.underlying9
 a9 := Tryz.isAgg9
 z9 := Tryz.sizeOf9
 v9 := Tryz.zeroValue9
 t37 := Tryz.underlying78
 a37 := Tryz.isAgg78
 z37 := Tryz.sizeOf78
 v37 := Tryz.zeroValue78
 t70 := Tryz.underlying77
 a70 := Tryz.isAgg77
 z70 := Tryz.sizeOf77
 v70 := Tryz.zeroValue77
 t72 := Tryz.underlying80
 a72 := Tryz.isAgg80
 z72 := Tryz.sizeOf80
 v72 := Tryz.zeroValue80
 t127 := Tryz.underlying123
 a127 := Tryz.isAgg123
 z127 := Tryz.sizeOf123
 v127 := Tryz.zeroValue123 }
theorem Tryz.Builder_Extra_169 : Builder.Extra Tryz.prog Tryz.lays169_ren := {
 sizeBuilder := by kernel_rfl
 liesBuilder := by kernel_rfl
 t5 := Tryz.underlying5
 a5 := Tryz.isAgg5
 z5 := Tryz.sizeOf5
 v5 := Tryz.zeroValue5
 infoByte := by kernel_rfl
 cellsByte := by kernel_rfl
 sizeByte := by kernel_rfl
 neB5 := by decide }
def Tryz.lays165_ren : Go.Shelf.Ren := ⟨fun | 165 => 62 | 240 => 81 | 241 => 93 | 276 => 103 | 277 => 112 | n => n, fun | 70 => 77 | 3 => 3 | 0 => 0 | 4 => 4 | 9 => 9 | 20 => 20 | 72 => 80 | 37 => 78 | 164 => 135 | 5 => 5 | n => n, fun | n => n⟩
theorem Tryz.lays165 : Go.Proofs.Lays.n165 Tryz.prog Tryz.lays165_ren := {
 mixed := by kernel_rfl
 f165 := Tryz.func62.trans (congrArg some (by kernel_rfl))
 f240 := Tryz.func81.trans (congrArg some (by kernel_rfl))
 f241 := Tryz.func93.trans (congrArg some (by kernel_rfl))
 f276 := Tryz.func103.trans (congrArg some (by kernel_rfl))
 f277 := Tryz.func112.trans (congrArg some (by kernel_rfl))
 t0 := Tryz.underlying0
 a0 := Tryz.isAgg0
 z0 := Tryz.sizeOf0
 v0 := Tryz.zeroValue0
 t3 := Tryz.underlying3
 a3 := Tryz.isAgg3
 z3 := Tryz.sizeOf3
 v3 := Tryz.zeroValue3
 t4 := Tryz.underlying4
 a4 := Tryz.isAgg4
 z4 := Tryz.sizeOf4
 v4 := Tryz.zeroValue4
 t9 := Tryz.underlying9
 a9 := Tryz.isAgg9
 z9 := Tryz.sizeOf9
 v9 := Tryz.zeroValue9
 t20 := Tryz.underlying20
 a20 := Tryz.isAgg20
 z20 := Tryz.sizeOf20
 v20 := Tryz.zeroValue20
 t37 := Tryz.underlying78
 a37 := Tryz.isAgg78
 z37 := Tryz.sizeOf78
 v37 := Tryz.zeroValue78
 t70 := Tryz.underlying77
 a70 := Tryz.isAgg77
 z70 := Tryz.sizeOf77
 v70 := Tryz.zeroValue77
 t72 := Tryz.underlying80
 a72 := Tryz.isAgg80
 z72 := Tryz.sizeOf80
 v72 := Tryz.zeroValue80
 t164 := Tryz.underlying135
 a164 := Tryz.isAgg135
 z164 := Tryz.sizeOf135
 v164 := Tryz.zeroValue135 }
theorem Tryz.Builder_Extra_165 : Builder.Extra Tryz.prog Tryz.lays165_ren := {
 sizeBuilder := by kernel_rfl
 liesBuilder := by kernel_rfl
 t5 := Tryz.underlying5
 a5 := Tryz.isAgg5
 z5 := Tryz.sizeOf5
 v5 := Tryz.zeroValue5
 infoByte := by kernel_rfl
 cellsByte := by kernel_rfl
 sizeByte := by kernel_rfl
 neB5 := by decide }
def Tryz.laysM171_ren : Go.Shelf.Ren := ⟨fun | 171 => 82 | 243 => 104 | 246 => 117 | 283 => 126 | 284 => 127 | 285 => 128 | 286 => 129 | 129 => 134 | 317 => 133 | 318 => 135 | 319 => 136 | 320 => 137 | 337 => 140 | 338 => 141 | n => n, fun | 3 => 3 | 9 => 9 | 2 => 2 | 4 => 4 | 171 => 158 | 0 => 0 | 53 => 159 | 37 => 78 | 5 => 5 | 173 => 162 | 212 => 171 | 51 => 145 | 20 => 20 | 213 => 172 | 46 => 138 | 232 => 179 | 233 => 180 | n => n, fun | 17 => 5 | 18 => 6 | 19 => 7 | n => n⟩
theorem Tryz.laysM171 : Go.Proofs.LaysM.n171 Tryz.prog Tryz.laysM171_ren := {
 mixed := by kernel_rfl
 f129 := Tryz.func134.trans (congrArg some (by kernel_rfl))
 f171 := Tryz.func82.trans (congrArg some (by kernel_rfl))
 f243 := Tryz.func104.trans (congrArg some (by kernel_rfl))
 f246 := Tryz.func117.trans (congrArg some (by kernel_rfl))
 f283 := Tryz.func126.trans (congrArg some (by kernel_rfl))
 f284 := Tryz.func127.trans (congrArg some (by kernel_rfl))
 f285 := Tryz.func128.trans (congrArg some (by kernel_rfl))
 f286 := Tryz.func129.trans (congrArg some (by kernel_rfl))
 f317 := Tryz.func133.trans (congrArg some (by kernel_rfl))
 f318 := Tryz.func135.trans (congrArg some (by kernel_rfl))
 f319 := Tryz.func136.trans (congrArg some (by kernel_rfl))
 f320 := Tryz.func137.trans (congrArg some (by kernel_rfl))
 f337 := Tryz.func140.trans (congrArg some (by kernel_rfl))
 f338 := Tryz.func141.trans (congrArg some (by kernel_rfl))
 t0 := Tryz.underlying0
 a0 := Tryz.isAgg0
 z0 := Tryz.sizeOf0
 v0 := Tryz.zeroValue0
 t2 := Tryz.underlying2
 a2 := Tryz.isAgg2
 z2 := Tryz.sizeOf2
 v2 := Tryz.zeroValue2
 t3 := Tryz.underlying3
 a3 := Tryz.isAgg3
 z3 := Tryz.sizeOf3
 v3 := Tryz.zeroValue3
 t4 := Tryz.underlying4
 a4 := Tryz.isAgg4
 z4 := Tryz.sizeOf4
 v4 := Tryz.zeroValue4
 t5 := Tryz.underlying5
 a5 := Tryz.isAgg5
 z5 := Tryz.sizeOf5
 v5 := Tryz.zeroValue5
 t9 := Tryz.underlying9
 a9 := Tryz.isAgg9
 z9 := Tryz.sizeOf9
 v9 := Tryz.zeroValue9
 t20 := Tryz.underlying20
 a20 := Tryz.isAgg20
 z20 := Tryz.sizeOf20
 v20 := Tryz.zeroValue20
 t37 := Tryz.underlying78
 a37 := Tryz.isAgg78
 z37 := Tryz.sizeOf78
 v37 := Tryz.zeroValue78
 t46 := Tryz.underlying138
 a46 := Tryz.isAgg138
 z46 := Tryz.sizeOf138
 v46 := Tryz.zeroValue138
 t51 := Tryz.underlying145
 a51 := Tryz.isAgg145
 z51 := Tryz.sizeOf145
 v51 := Tryz.zeroValue145
 t53 := Tryz.underlying159
 a53 := Tryz.isAgg159
 z53 := Tryz.sizeOf159
 v53 := Tryz.zeroValue159
 t171 := Tryz.underlying158
 a171 := Tryz.isAgg158
 z171 := Tryz.sizeOf158
 v171 := Tryz.zeroValue158
 t173 := Tryz.underlying162
 a173 := Tryz.isAgg162
 z173 := Tryz.sizeOf162
 v173 := Tryz.zeroValue162
 t212 := Tryz.underlying171
 a212 := Tryz.isAgg171
 z212 := Tryz.sizeOf171
 v212 := Tryz.zeroValue171
 t213 := Tryz.underlying172
 a213 := Tryz.isAgg172
 z213 := Tryz.sizeOf172
 t232 := Tryz.underlying179
 a232 := Tryz.isAgg179
 z232 := Tryz.sizeOf179
 v232 := Tryz.zeroValue179
 t233 := Tryz.underlying180
 a233 := Tryz.isAgg180
 z233 := Tryz.sizeOf180
 v233 := Tryz.zeroValue180
 g17 := by kernel_rfl
 g18 := by kernel_rfl
 g19 := by kernel_rfl
 i0 := by kernel_rfl
 i2 := by kernel_rfl
 i3 := by kernel_rfl
 i4 := by kernel_rfl
 i5 := by kernel_rfl
 i9 := by kernel_rfl
 i20 := by kernel_rfl
 i37 := by kernel_rfl
 i46 := by kernel_rfl
 i51 := by kernel_rfl
 i53 := by kernel_rfl
 i171 := by kernel_rfl
 i173 := by kernel_rfl
 i212 := by kernel_rfl
 i232 := by kernel_rfl
 i233 := by kernel_rfl
 m17 := by kernel_rfl
 m18 := by kernel_rfl
 m19 := by kernel_rfl }
open Go.RowKit Go.Sort Go.Lib in
theorem Tryz.strconv_Itoa (n : Int) (h0 : -9223372036854775808 ≤ n) (h1 : n ≤ 9223372036854775807) (w : World) (htab : Lib.TabIs Tryz.prog w "internal/strconv.uint64pow10" .u64 Lib.pow10Tab) :
  Calls Tryz.prog 82 #[.int .i64 n] w fun e w' => e = .returned (.string ⟨(Lib.itoa n).toArray⟩) ∧ ∃ k os, w' = grow (w.drewN k) os := Any.strconv_Itoa Tryz.laysM171 n h0 h1 w htab
def Tryz.laysC172_ren : Go.Shelf.Ren := ⟨fun | 172 => 94 | 244 => 113 | 245 => 114 | 247 => 121 | 279 => 122 | 280 => 123 | 281 => 124 | 282 => 125 | 287 => 130 | 316 => 131 | 171 => 82 | 205 => 132 | 321 => 138 | 322 => 139 | 243 => 104 | 246 => 117 | 283 => 126 | 284 => 127 | 285 => 128 | 286 => 129 | 129 => 134 | 317 => 133 | 318 => 135 | 319 => 136 | 320 => 137 | 337 => 140 | 338 => 141 | n => n, fun | 9 => 9 | 3 => 3 | 75 => 82 | 76 => 83 | 4 => 4 | 5 => 5 | 167 => 152 | 37 => 78 | 0 => 0 | 85 => 153 | 2 => 2 | 168 => 155 | 53 => 159 | 175 => 164 | 46 => 138 | 210 => 168 | 127 => 123 | 145 => 177 | 143 => 175 | 21 => 21 | 171 => 158 | 173 => 162 | 212 => 171 | 51 => 145 | 20 => 20 | 213 => 172 | 232 => 179 | 233 => 180 | 80 => 88 | n => n, fun | 15 => 3 | 16 => 4 | 17 => 5 | 18 => 6 | 19 => 7 | n => n⟩
theorem Tryz.laysC172 : Go.Proofs.LaysC.n172 Tryz.prog Tryz.laysC172_ren := {
 mixed := by kernel_rfl
 f129 := Tryz.func134.trans (congrArg some (by kernel_rfl))
 f171 := Tryz.func82.trans (congrArg some (by kernel_rfl))
 f172 := Tryz.func94.trans (congrArg some (by kernel_rfl))
 f205 := Tryz.func132.trans (congrArg some (by kernel_rfl))
 f243 := Tryz.func104.trans (congrArg some (by kernel_rfl))
 f244 := Tryz.func113.trans (congrArg some (by kernel_rfl))
 f245 := Tryz.func114.trans (congrArg some (by kernel_rfl))
 f246 := Tryz.func117.trans (congrArg some (by kernel_rfl))
 f247 := Tryz.func121.trans (congrArg some (by kernel_rfl))
 f279 := Tryz.func122.trans (congrArg some (by kernel_rfl))
 f280 := Tryz.func123.trans (congrArg some (by kernel_rfl))
 f281 := Tryz.func124.trans (congrArg some (by kernel_rfl))
 f282 := Tryz.func125.trans (congrArg some (by kernel_rfl))
 f283 := Tryz.func126.trans (congrArg some (by kernel_rfl))
 f284 := Tryz.func127.trans (congrArg some (by kernel_rfl))
 f285 := Tryz.func128.trans (congrArg some (by kernel_rfl))
 f286 := Tryz.func129.trans (congrArg some (by kernel_rfl))
 f287 := Tryz.func130.trans (congrArg some (by kernel_rfl))
 f316 := Tryz.func131.trans (congrArg some (by kernel_rfl))
 f317 := Tryz.func133.trans (congrArg some (by kernel_rfl))
 f318 := Tryz.func135.trans (congrArg some (by kernel_rfl))
 f319 := Tryz.func136.trans (congrArg some (by kernel_rfl))
 f320 := Tryz.func137.trans (congrArg some (by kernel_rfl))
 f321 := Tryz.func138.trans (congrArg some (by kernel_rfl))
 f322 := Tryz.func139.trans (congrArg some (by kernel_rfl))
 f337 := Tryz.func140.trans (congrArg some (by kernel_rfl))
 f338 := Tryz.func141.trans (congrArg some (by kernel_rfl))
 t0 := Tryz.underlying0
 a0 := Tryz.isAgg0
 z0 := Tryz.sizeOf0
 v0 := Tryz.zeroValue0
 t2 := Tryz.underlying2
 a2 := Tryz.isAgg2
 z2 := Tryz.sizeOf2
 v2 := Tryz.zeroValue2
 t3 := Tryz.underlying3
 a3 := Tryz.isAgg3
 z3 := Tryz.sizeOf3
 v3 := Tryz.zeroValue3
 t4 := Tryz.underlying4
 a4 := Tryz.isAgg4
 z4 := Tryz.sizeOf4
 v4 := Tryz.zeroValue4
 t5 := Tryz.underlying5
 a5 := Tryz.isAgg5
 z5 := Tryz.sizeOf5
 v5 := Tryz.zeroValue5
 t9 := Tryz.underlying9
 a9 := Tryz.isAgg9
 z9 := Tryz.sizeOf9
 v9 := Tryz.zeroValue9
 t20 := Tryz.underlying20
 a20 := Tryz.isAgg20
 z20 := Tryz.sizeOf20
 v20 := Tryz.zeroValue20
 t21 := Tryz.underlying21
 a21 := Tryz.isAgg21
 z21 := Tryz.sizeOf21
 v21 := Tryz.zeroValue21
 t37 := Tryz.underlying78
 a37 := Tryz.isAgg78
 z37 := Tryz.sizeOf78
 v37 := Tryz.zeroValue78
 t46 := Tryz.underlying138
 a46 := Tryz.isAgg138
 z46 := Tryz.sizeOf138
 v46 := Tryz.zeroValue138
 t51 := Tryz.underlying145
 a51 := Tryz.isAgg145
 z51 := Tryz.sizeOf145
 v51 := Tryz.zeroValue145
 t53 := Tryz.underlying159
 a53 := Tryz.isAgg159
 z53 := Tryz.sizeOf159
 v53 := Tryz.zeroValue159
 t75 := Tryz.underlying82
 a75 := Tryz.isAgg82
 z75 := Tryz.sizeOf82
 v75 := Tryz.zeroValue82
 t76 := Tryz.underlying83
 a76 := Tryz.isAgg83
 z76 := Tryz.sizeOf83
 v76 := Tryz.zeroValue83
 t85 := Tryz.underlying153
 a85 := Tryz.isAgg153
 z85 := Tryz.sizeOf153
 v85 := Tryz.zeroValue153
 t127 := Tryz.underlying123
 a127 := Tryz.isAgg123
 z127 := Tryz.sizeOf123
 v127 := Tryz.zeroValue123
 t143 := Tryz.underlying175
 a143 := Tryz.isAgg175
 z143 := Tryz.sizeOf175
 v143 := Tryz.zeroValue175
 t145 := Tryz.underlying177
 a145 := Tryz.isAgg177
 z145 := Tryz.sizeOf177
 v145 := Tryz.zeroValue177
 t167 := Tryz.underlying152
 a167 := Tryz.isAgg152
 z167 := Tryz.sizeOf152
 v167 := Tryz.zeroValue152
 t168 := Tryz.underlying155
 a168 := Tryz.isAgg155
 z168 := Tryz.sizeOf155
 v168 := Tryz.zeroValue155
 t171 := Tryz.underlying158
 a171 := Tryz.isAgg158
 z171 := Tryz.sizeOf158
 v171 := Tryz.zeroValue158
 t173 := Tryz.underlying162
 a173 := Tryz.isAgg162
 z173 := Tryz.sizeOf162
 v173 := Tryz.zeroValue162
 t175 := Tryz.underlying164
 a175 := Tryz.isAgg164
 z175 := Tryz.sizeOf164
 v175 := Tryz.zeroValue164
 t210 := Tryz.underlying168
 a210 := Tryz.isAgg168
 z210 := Tryz.sizeOf168
 v210 := Tryz.zeroValue168
 t212 := Tryz.underlying171
 a212 := Tryz.isAgg171
 z212 := Tryz.sizeOf171
 v212 := Tryz.zeroValue171
 t213 := Tryz.underlying172
 a213 := Tryz.isAgg172
 z213 := Tryz.sizeOf172
 t232 := Tryz.underlying179
 a232 := Tryz.isAgg179
 z232 := Tryz.sizeOf179
 v232 := Tryz.zeroValue179
 t233 := Tryz.underlying180
 a233 := Tryz.isAgg180
 z233 := Tryz.sizeOf180
 v233 := Tryz.zeroValue180
 g15 := by kernel_rfl
 g16 := by kernel_rfl
 g17 := by kernel_rfl
 g18 := by kernel_rfl
 g19 := by kernel_rfl
 t80 := Tryz.underlying88
 a80 := Tryz.isAgg88
 z80 := Tryz.sizeOf88
 v80 := Tryz.zeroValue88
 i0 := by kernel_rfl
 i2 := by kernel_rfl
 i3 := by kernel_rfl
 i4 := by kernel_rfl
 i5 := by kernel_rfl
 i9 := by kernel_rfl
 i20 := by kernel_rfl
 i21 := by kernel_rfl
 i37 := by kernel_rfl
 i46 := by kernel_rfl
 i51 := by kernel_rfl
 i53 := by kernel_rfl
 i75 := by kernel_rfl
 i76 := by kernel_rfl
 i80 := by kernel_rfl
 i85 := by kernel_rfl
 i127 := by kernel_rfl
 i143 := by kernel_rfl
 i145 := by kernel_rfl
 i167 := by kernel_rfl
 i168 := by kernel_rfl
 i171 := by kernel_rfl
 i173 := by kernel_rfl
 i175 := by kernel_rfl
 i210 := by kernel_rfl
 i212 := by kernel_rfl
 i232 := by kernel_rfl
 i233 := by kernel_rfl
 m15 := by kernel_rfl
 m16 := by kernel_rfl
 m17 := by kernel_rfl
 m18 := by kernel_rfl
 m19 := by kernel_rfl
 c0 := by kernel_rfl
 c2 := by kernel_rfl
 c3 := by kernel_rfl
 c4 := by kernel_rfl
 c5 := by kernel_rfl
 c9 := by kernel_rfl
 c20 := by kernel_rfl
 c21 := by kernel_rfl
 c37 := by kernel_rfl
 c46 := by kernel_rfl
 c51 := by kernel_rfl
 c53 := by kernel_rfl
 c75 := by kernel_rfl
 c76 := by kernel_rfl
 c80 := by kernel_rfl
 c85 := by kernel_rfl
 c127 := by kernel_rfl
 c143 := by kernel_rfl
 c145 := by kernel_rfl
 c167 := by kernel_rfl
 c168 := by kernel_rfl
 c171 := by kernel_rfl
 c173 := by kernel_rfl
 c175 := by kernel_rfl
 c210 := by kernel_rfl
 c212 := by kernel_rfl
 c213 := by kernel_rfl
 c232 := by kernel_rfl
 c233 := by kernel_rfl }
open Go.RowKit in
theorem Tryz.strconv_Atoi_ok (s : ByteArray) (hmax : s.size ≤ 9223372036854775806) (v : Int) (h : Lib.atoiAll s.data.toList = .ok v) (w : World) :
  Calls Tryz.prog 94 #[.string s] w fun e w' => e = .returned (.tuple #[.int .i64 v, .nilIface]) ∧ (w' = w ∨ ∃ t, w' = Lib.bytesWorld w 5 t) := Any.strconv_Atoi_ok Tryz.laysC172 s hmax v h w
open Go.RowKit in
theorem Tryz.strconv_Atoi_range_var (s : ByteArray) (hlim : s.size ≤ 281474976710656) (h : Lib.atoiAll s.data.toList = .range) (tp : TypeId) (p : Value) (w : World) (hvar : w.var? Tryz.prog "strconv.ErrRange" = some #[.iface tp p]) :
  Calls Tryz.prog 94 #[.string s] w fun e w' => ∃ N, e = .returned (.tuple #[.int .i64 (Lib.atoiSat s.data.toList), .iface 155 (.pointer (some ⟨N, 0, none⟩))]) ∧ w.heap.size ≤ N ∧ w'.heap[N]? = some (.cells #[.string ⟨#[65, 116, 111, 105]⟩, .string s, .iface tp p] 168 (0, 0)) ∧ Below w.heap.size w w' := Any.strconv_Atoi_range_var Tryz.laysC172 s hlim h tp p w hvar
def Tryz.lays145_ren : Go.Shelf.Ren := ⟨fun | 145 => 26 | 220 => 68 | 219 => 85 | 217 => 106 | 225 => 107 | 224 => 108 | 267 => 109 | 266 => 119 | 314 => 120 | n => n, fun | 9 => 9 | 4 => 4 | 59 => 61 | 3 => 3 | 5 => 5 | 46 => 138 | 146 => 146 | 51 => 145 | n => n, fun | 1 => 0 | n => n⟩
theorem Tryz.lays145 : Go.Proofs.Lays.n145 Tryz.prog Tryz.lays145_ren := {
 mixed := by kernel_rfl
 f145 := Tryz.func26.trans (congrArg some (by kernel_rfl))
 f217 := Tryz.func106.trans (congrArg some (by kernel_rfl))
 f219 := Tryz.func85.trans (congrArg some (by kernel_rfl))
 f220 := Tryz.func68.trans (congrArg some (by kernel_rfl))
 f224 := Tryz.func108.trans (congrArg some (by kernel_rfl))
 f225 := Tryz.func107.trans (congrArg some (by kernel_rfl))
 f266 := Tryz.func119.trans (congrArg some (by kernel_rfl))
 f267 := Tryz.func109.trans (congrArg some (by kernel_rfl))
 f314 := Tryz.func120.trans (congrArg some (by kernel_rfl))
 t3 := Tryz.underlying3
 a3 := Tryz.isAgg3
 z3 := Tryz.sizeOf3
 v3 := Tryz.zeroValue3
 t4 := Tryz.underlying4
 a4 := Tryz.isAgg4
 z4 := Tryz.sizeOf4
 v4 := Tryz.zeroValue4
 t5 := Tryz.underlying5
 a5 := Tryz.isAgg5
 z5 := Tryz.sizeOf5
 v5 := Tryz.zeroValue5
 t9 := Tryz.underlying9
 a9 := Tryz.isAgg9
 z9 := Tryz.sizeOf9
 v9 := Tryz.zeroValue9
 t46 := Tryz.underlying138
 a46 := Tryz.isAgg138
 z46 := Tryz.sizeOf138
 v46 := Tryz.zeroValue138
 t51 := Tryz.underlying145
 a51 := Tryz.isAgg145
 z51 := Tryz.sizeOf145
 v51 := Tryz.zeroValue145
 t59 := Tryz.underlying61
 a59 := Tryz.isAgg61
 z59 := Tryz.sizeOf61
 v59 := Tryz.zeroValue61
 t146 := Tryz.underlying146
 a146 := Tryz.isAgg146
 z146 := Tryz.sizeOf146
 v146 := Tryz.zeroValue146
 g1 := by kernel_rfl }
open Go.RowKit Go.Lib in
theorem Tryz.strings_Cut (s sep : ByteArray) (m : Int) (w : World) (hs : s.size < 4294967281) (hm : w.cell? ⟨0, 0, none⟩ = some (.int .i64 m)) :
  Calls Tryz.prog 26 #[.string s, .string sep] w fun e w' => e = .returned (.tuple #[.string ⟨(Lib.cut s.data.toList sep.data.toList).1.toArray⟩, .string ⟨(Lib.cut s.data.toList sep.data.toList).2.1.toArray⟩, .bool (Lib.cut s.data.toList sep.data.toList).2.2]) ∧ ∃ n, w' = w.drewN n := Any.strings_Cut Tryz.lays145 s sep m w hs hm
def Tryz.lays102_ren : Go.Shelf.Ren := ⟨fun | 102 => 84 | 209 => 105 | 207 => 118 | n => n, fun | 9 => 9 | 4 => 4 | 3 => 3 | n => n, fun | n => n⟩
theorem Tryz.lays102 : Go.Proofs.Lays.n102 Tryz.prog Tryz.lays102_ren := {
 mixed := by kernel_rfl
 f102 := Tryz.func84.trans (congrArg some (by kernel_rfl))
 f207 := Tryz.func118.trans (congrArg some (by kernel_rfl))
 f209 := Tryz.func105.trans (congrArg some (by kernel_rfl))
 t3 := Tryz.underlying3
 a3 := Tryz.isAgg3
 z3 := Tryz.sizeOf3
 v3 := Tryz.zeroValue3
 t4 := Tryz.underlying4
 a4 := Tryz.isAgg4
 z4 := Tryz.sizeOf4
 v4 := Tryz.zeroValue4
 t9 := Tryz.underlying9
 a9 := Tryz.isAgg9
 z9 := Tryz.sizeOf9
 v9 := Tryz.zeroValue9 }
open Go.RowKit Go.Lib in
theorem Tryz.strings_TrimSuffix (s p : ByteArray) (w : World) (hs : s.size ≤ 9223372036854775807) :
  Calls Tryz.prog 84 #[.string s, .string p] w fun e w' => e = .returned (.string ⟨(Lib.trimSuffix s.data.toList p.data.toList).toArray⟩) ∧ w' = w := Any.strings_TrimSuffix Tryz.lays102 s p w hs
def Tryz.lays146_ren : Go.Shelf.Ren := ⟨fun | 146 => 20 | 221 => 60 | 268 => 91 | 138 => 14 | 143 => 50 | 195 => 48 | 197 => 92 | 218 => 49 | 219 => 85 | 260 => 111 | 217 => 106 | 225 => 107 | 224 => 108 | 267 => 109 | 266 => 119 | 314 => 120 | n => n, fun | 9 => 9 | 31 => 46 | 3 => 3 | 4 => 4 | 0 => 0 | 105 => 129 | 21 => 21 | 5 => 5 | 46 => 138 | 119 => 148 | 139 => 151 | 138 => 150 | 146 => 146 | 51 => 145 | n => n, fun | 1 => 0 | 3 => 1 | 4 => 2 | n => n⟩
theorem Tryz.lays146 : Go.Proofs.Lays.n146 Tryz.prog Tryz.lays146_ren := {
 mixed := by kernel_rfl
 f138 := Tryz.func14.trans (congrArg some (by kernel_rfl))
 f143 := Tryz.func50.trans (congrArg some (by kernel_rfl))
 f146 := Tryz.func20.trans (congrArg some (by kernel_rfl))
 f195 := Tryz.func48.trans (congrArg some (by kernel_rfl))
 f197 := Tryz.func92.trans (congrArg some (by kernel_rfl))
 f217 := Tryz.func106.trans (congrArg some (by kernel_rfl))
 f218 := Tryz.func49.trans (congrArg some (by kernel_rfl))
 f219 := Tryz.func85.trans (congrArg some (by kernel_rfl))
 f221 := Tryz.func60.trans (congrArg some (by kernel_rfl))
 f224 := Tryz.func108.trans (congrArg some (by kernel_rfl))
 f225 := Tryz.func107.trans (congrArg some (by kernel_rfl))
 f260 := Tryz.func111.trans (congrArg some (by kernel_rfl))
 f266 := Tryz.func119.trans (congrArg some (by kernel_rfl))
 f267 := Tryz.func109.trans (congrArg some (by kernel_rfl))
 f268 := Tryz.func91.trans (congrArg some (by kernel_rfl))
 f314 := Tryz.func120.trans (congrArg some (by kernel_rfl))
 t0 := Tryz.underlying0
 a0 := Tryz.isAgg0
 z0 := Tryz.sizeOf0
 v0 := Tryz.zeroValue0
 t3 := Tryz.underlying3
 a3 := Tryz.isAgg3
 z3 := Tryz.sizeOf3
 v3 := Tryz.zeroValue3
 t4 := Tryz.underlying4
 a4 := Tryz.isAgg4
 z4 := Tryz.sizeOf4
 v4 := Tryz.zeroValue4
 t5 := Tryz.underlying5
 a5 := Tryz.isAgg5
 z5 := Tryz.sizeOf5
 v5 := Tryz.zeroValue5
 t9 := Tryz.underlying9
 a9 := Tryz.isAgg9
 z9 := Tryz.sizeOf9
 v9 := Tryz.zeroValue9
 t21 := Tryz.underlying21
 a21 := Tryz.isAgg21
 z21 := Tryz.sizeOf21
 v21 := Tryz.zeroValue21
 t31 := Tryz.underlying46
 a31 := Tryz.isAgg46
 z31 := Tryz.sizeOf46
 v31 := Tryz.zeroValue46
 t46 := Tryz.underlying138
 a46 := Tryz.isAgg138
 z46 := Tryz.sizeOf138
 v46 := Tryz.zeroValue138
 t51 := Tryz.underlying145
 a51 := Tryz.isAgg145
 z51 := Tryz.sizeOf145
 v51 := Tryz.zeroValue145
 t105 := Tryz.underlying129
 a105 := Tryz.isAgg129
 z105 := Tryz.sizeOf129
 v105 := Tryz.zeroValue129
 t119 := Tryz.underlying148
 a119 := Tryz.isAgg148
 z119 := Tryz.sizeOf148
 t138 := Tryz.underlying150
 a138 := Tryz.isAgg150
 z138 := Tryz.sizeOf150
 v138 := Tryz.zeroValue150
 t139 := Tryz.underlying151
 a139 := Tryz.isAgg151
 z139 := Tryz.sizeOf151
 v139 := Tryz.zeroValue151
 t146 := Tryz.underlying146
 a146 := Tryz.isAgg146
 z146 := Tryz.sizeOf146
 v146 := Tryz.zeroValue146
 g1 := by kernel_rfl
 g3 := by kernel_rfl
 g4 := by kernel_rfl }
open Go.RowKit Go.Lib in
theorem Tryz.strings_Split (s sep : ByteArray) (m : Int) (w : World) (hs : s.size < 4294967281) (hm : w.cell? ⟨0, 0, none⟩ = some (.int .i64 m)) (h1 : 1 ≤ sep.size) :
  Calls Tryz.prog 20 #[.string s, .string sep] w fun e w' =>
   e = .returned (.slice (some ⟨w.heap.size, 0, none⟩) (Lib.countB s sep + 1) (Lib.countB s sep + 1)) ∧ w' = w.alloc (.cells ((Lib.splitB sep 0 (Lib.countB s sep) s).map Value.string).toArray 9) := Any.strings_Split Tryz.lays146 (by kernel_rfl) s sep m w hs hm h1
def Tryz.lays229_ren : Go.Shelf.Ren := ⟨fun | 229 => 27 | n => n, fun | 9 => 9 | 40 => 64 | 31 => 46 | 152 => 109 | 3 => 3 | 0 => 0 | 4 => 4 | 21 => 21 | 154 => 111 | n => n, fun | n => n⟩
theorem Tryz.lays229 : Go.Proofs.Lays.n229 Tryz.prog Tryz.lays229_ren := {
 mixed := by kernel_rfl
 f229 := Tryz.func27.trans (congrArg some (by kernel_rfl))
 t0 := Tryz.underlying0
 a0 := Tryz.isAgg0
 z0 := Tryz.sizeOf0
 v0 := Tryz.zeroValue0
 t3 := Tryz.underlying3
 a3 := Tryz.isAgg3
 z3 := Tryz.sizeOf3
 v3 := Tryz.zeroValue3
 t4 := Tryz.underlying4
 a4 := Tryz.isAgg4
 z4 := Tryz.sizeOf4
 v4 := Tryz.zeroValue4
 t9 := Tryz.underlying9
 a9 := Tryz.isAgg9
 z9 := Tryz.sizeOf9
 v9 := Tryz.zeroValue9
 t21 := Tryz.underlying21
 a21 := Tryz.isAgg21
 z21 := Tryz.sizeOf21
 v21 := Tryz.zeroValue21
 t31 := Tryz.underlying46
 a31 := Tryz.isAgg46
 z31 := Tryz.sizeOf46
 v31 := Tryz.zeroValue46
 t40 := Tryz.underlying64
 a40 := Tryz.isAgg64
 z40 := Tryz.sizeOf64
 v40 := Tryz.zeroValue64
 t152 := Tryz.underlying109
 a152 := Tryz.isAgg109
 z152 := Tryz.sizeOf109
 v152 := Tryz.zeroValue109
 t154 := Tryz.underlying111
 a154 := Tryz.isAgg111
 z154 := Tryz.sizeOf111
 v154 := Tryz.zeroValue111 }
open Go.RowKit Go.Lib in
theorem Tryz.strings_FieldsFunc_grows (g : Nat) (lb : Array Value) (eg : ∀ args w, (callFunc g args).run Tryz.prog w = .ok (.enter g args) w) (p : Nat → Bool) (s : ByteArray) (w : World) (hs : s.size ≤ 4294967296) (hp : PredGrows Tryz.prog g lb p w) :
  Calls Tryz.prog 27 #[.string s, .func (.func g) #[] lb] w fun e w' => ∃ A, e = .returned (.slice (some ⟨A, 0, none⟩) (Lib.goFieldsP p s).length (Lib.goFieldsP p s).length) ∧ w.heap.size ≤ A ∧
   w'.ownsRow w.heap.size 9 1 (.slice (some ⟨A, 0, none⟩) (Lib.goFieldsP p s).length (Lib.goFieldsP p s).length) (Lib.goFieldsP p s).length ((Lib.goFieldsP p s).map Value.string) ∧ Below w.heap.size w w' := Any.strings_FieldsFunc_grows Tryz.lays229 g lb eg p s w hs hp (by kernel_rfl) (by kernel_rfl)
end Go.Proofs
namespace Go.Proofs.YteokbngllldmdaaGreatDoor
namespace Pur
open Go.RowKit
section
open Sch
def canon : Nat → PV → PV
 | 0, p => p
 | d + 1, p => match p with
  | .nilsl => .sl 0 []
  | .agg l => .agg (l.map (canon d))
  | .tup l => .tup (l.map (canon d))
  | .sl n l => .sl n (l.map (canon d))
  | p => p
theorem canon_is {w : World} {S : Nat → Prop} : ∀ (d : Nat) {p : PV} {v : Value}, Is w S p v → Is w S (canon d p) v
 | 0, _, _, h => h
 | d + 1, p, v, h => by
  cases h with
  | int k n => exact .int k n
  | bool b => exact .bool b
  | str s => exact .str s
  | agg l cs hl hat =>
   refine .agg _ cs (by simpa using hl) fun i q u h1 h2 => ?_
   rw [List.getElem?_map] at h1
   obtain ⟨r, hr, rfl⟩ := Option.map_eq_some_iff.mp h1
   exact canon_is d (hat i r u hr h2)
  | tup l cs hl hat =>
   refine .tup _ cs (by simpa using hl) fun i q u h1 h2 => ?_
   rw [List.getElem?_map] at h1
   obtain ⟨r, hr, rfl⟩ := Option.map_eq_some_iff.mp h1
   exact canon_is d (hat i r u hr h2)
  | nilsl => exact .sl0
  | sl n l g o cap c hS h1 h2 hc h3 hi =>
   refine .sl n _ g o cap c hS h1 h2 (fun i q hq => ?_) (fun i q hq => ?_) fun i q hq => ?_
   all_goals
    rw [List.getElem?_map] at hq
    obtain ⟨r, hr, rfl⟩ := Option.map_eq_some_iff.mp hq
   ·exact hc i r hr
   ·exact h3 i r hr
   ·exact canon_is d (hi i r hr)
  | sl0 => exact .sl0
  | slz a cap h => exact .slz a cap h
  | val v => exact .val v
  | iface t p => exact .iface t p
  | mp l r es clock a b c d => exact .mp l r es clock a b c d
theorem PureOK.canon_args {C : Ctx} {f : FuncId} {ps : List PV} {r : PV} (d : Nat) (h : PureOK C f (ps.map (canon d)) r) : PureOK C f ps r :=
 ⟨h.1, fun w S vs hE hS hp => h.2 w S vs hE hS ⟨by rw [List.length_map]; exact hp.len, fun i p v h1 h2 => by
  rw [List.getElem?_map] at h1
  obtain ⟨q, hq, rfl⟩ := Option.map_eq_some_iff.mp h1
  exact canon_is d (hp.at_ i q v hq h2)⟩⟩
theorem PureOK.canon_res {C : Ctx} {f : FuncId} {ps : List PV} {r : PV} (d : Nat) (h : PureOK C f ps r) : PureOK C f ps (canon d r) :=
 ⟨h.1, fun w S vs hE hS hp => (h.2 w S vs hE hS hp).mono fun e w' hh => by
  obtain ⟨v, h1, h2, h3⟩ := hh
  exact ⟨v, h1, h2, canon_is d h3⟩⟩
theorem PureOK.of_calls {f : FuncId} {ps : List PV} {r : PV} (hc : callable Tryz.prog f = true) (h : ∀ (w : World) (S : Nat → Prop) (vs : List Value), Env w → (∀ g, S g → g < w.heap.size) → PW (Is w S) ps vs →
  Calls Tryz.prog f vs.toArray w fun e w' => ∃ v, e = .returned v ∧ Below w.heap.size w w' ∧ (∀ w' S', Is w' S' r v)) : PureOK ctx f ps r :=
 ⟨hc, fun w S vs hE hS hp => (h w S vs hE hS hp).mono fun e w' hh => by
  obtain ⟨v, h1, h2, h3⟩ := hh
  exact ⟨v, h1, h2, h3 _ _⟩⟩
theorem pw1 {w : World} {S : Nat → Prop} {p : PV} {vs : List Value} (h : PW (Is w S) [p] vs) : ∃ v, vs = [v] ∧ Is w S p v := by
 match vs, h.len with
 | [v], _ => exact ⟨v, rfl, h.at_ 0 p v rfl rfl⟩
theorem pw2 {w : World} {S : Nat → Prop} {p q : PV} {vs : List Value} (h : PW (Is w S) [p, q] vs) : ∃ v u, vs = [v, u] ∧ Is w S p v ∧ Is w S q u := by
 match vs, h.len with
 | [v, u], _ => exact ⟨v, u, rfl, h.at_ 0 p v rfl rfl, h.at_ 1 q u rfl rfl⟩
theorem is_str_inv {w : World} {S : Nat → Prop} {l : List UInt8} {v : Value} (h : Is w S (.str l) v) : v = .string ⟨l.toArray⟩ := by cases h; rfl
theorem is_int_inv {w : World} {S : Nat → Prop} {k : IntKind} {n : Int} {v : Value} (h : Is w S (.int k n) v) : v = .int k n := by cases h; rfl
theorem is_tup2 {w : World} {S : Nat → Prop} {p q : PV} {u v : Value} (h1 : Is w S p u) (h2 : Is w S q v) : Is w S (.tup [p, q]) (.tuple #[u, v]) :=
 .tup [p, q] [u, v] rfl fun i r x hr hx => by
  match i, hr, hx with
  | 0, hr, hx => simp at hr hx; subst hr hx; exact h1
  | 1, hr, hx => simp at hr hx; subst hr hx; exact h2
theorem itoa_ok (n : Int) (h0 : -9223372036854775808 ≤ n) (h1 : n ≤ 9223372036854775807) : PureOK ctx 82 [.int .i64 n] (.str (Lib.itoa n)) := by
 refine PureOK.of_calls (by kernel_rfl) fun w S vs hE hS hp => ?_
 obtain ⟨v, rfl, hv⟩ := pw1 hp
 have := is_int_inv hv
 subst this
 refine (Tryz.strconv_Itoa n h0 h1 w hE.tab).mono fun e w' ⟨he, k, os, hw⟩ => ⟨_, he, ?_, fun _ _ => .str _⟩
 rw [hw]
 exact below_grown_sl w.heap.size w k os (Nat.le_refl _)
def atoiP (l : List UInt8) : PV := match Lib.atoiAll l with
 | .ok v => .tup [.int .i64 v, .val .nilIface]
 | .range => .tup [.int .i64 (Lib.atoiSat l), .iface]
 | _ => .tup [.int .i64 0, .iface]
theorem atoi_ok (l : List UInt8) (hl : l.length ≤ 281474976710656) : PureOK ctx 94 [.str l] (atoiP l) := by
 refine PureOK.of_calls (by kernel_rfl) fun w S vs hE hS hp => ?_
 obtain ⟨v, rfl, hv⟩ := pw1 hp
 have := is_str_inv hv
 subst this
 have hsz : (⟨l.toArray⟩ : ByteArray).size = l.length := by simp [ByteArray.size]
 unfold atoiP
 cases ha : Lib.atoiAll l
 case ok n =>
  refine (Tryz.strconv_Atoi_ok ⟨l.toArray⟩ (by omega) n ha w).mono fun e w' ⟨he, hw⟩ => ⟨_, he, ?_, fun _ _ => is_tup2 (.int _ _) (.val _)⟩
  rcases hw with rfl | ⟨t, rfl⟩
  ·exact Below.refl _ _
  ·exact Go.Joins.below_bytesWorld _ w _ t (Nat.le_refl _)
 case range =>
  obtain ⟨tp, p, hv⟩ := hE.ran
  refine (Tryz.strconv_Atoi_range_var ⟨l.toArray⟩ (by omega) ha tp p w hv).mono fun e w' ⟨N, he, _, _, hb⟩ => ⟨_, he, hb, fun _ _ => is_tup2 (.int _ _) (.iface _ _)⟩
 ·obtain ⟨tp, p, hv⟩ := hE.syn
  refine (Any.strconv_Atoi_syntax_var Tryz.laysC172 ⟨l.toArray⟩ (by omega) ha tp p w hv).mono fun e w' ⟨N, he, _, _, hb⟩ => ⟨_, he, hb, fun _ _ => is_tup2 (.int _ _) (.iface _ _)⟩
end
end Pur
end Go.Proofs.YteokbngllldmdaaGreatDoor
namespace Go.Proofs.YteokbngllldmdaaGreatDoor
open Go.RowKit
open Sch
deriving instance DecidableEq for Sch.Fate
deriving instance DecidableEq for Sch.Step
deriving instance DecidableEq for Sch.Sched
structure Sizes (x : Step) : Prop where
 q : x.queries.length ≤ 9223372036854775800
 s : x.survive.length ≤ 9223372036854775800
 t : x.voters.length ≤ 9223372036854775800
structure Mild (S : Sched) : Prop where
 r1 : 0 ≤ S.replicas
 r2 : S.replicas ≤ 100
 s1 : 0 ≤ S.sessions
 s2 : S.sessions ≤ 100
 t1 : 0 ≤ S.ticks
 t2 : S.ticks ≤ 2000000
structure Fits (S : Sched) : Prop where
 a : S.state.length ≤ 9223372036854775800
 f : S.fates.length ≤ 9223372036854775800
 p : S.steps.length ≤ 9223372036854775800
 z : ∀ k, Sizes (S.steps.getD k zeroStep)
def sameSched (x y : Sched) : Bool := decide (x.replicas = y.replicas) && decide (x.sessions = y.sessions) && decide (x.sectors = y.sectors) && decide (x.ticks = y.ticks) && decide (x.state = y.state) && decide (x.fates = y.fates) && decide (x.steps = y.steps)
def lineTo (first : List UInt8) : List Int → List UInt8
 | [] => first
 | n :: r => lineTo (first ++ 32 :: Lib.itoa n) r
theorem lineTo_snoc (ns : List Int) (n : Int) : ∀ first, lineTo first (ns ++ [n]) = lineTo first ns ++ 32 :: Lib.itoa n := by
 induction ns with
 | nil => intro first; rfl
 | cons m r ih => intro first; exact ih _
theorem lineTo_take (first : List UInt8) (ns : List Int) (k : Nat) (hk : k < ns.length) : lineTo first (ns.take (k + 1)) = lineTo first (ns.take k) ++ 32 :: Lib.itoa (ns.getD k 0) := by
 rw [List.take_succ_eq_append_getElem hk, lineTo_snoc, List.getD, List.getElem?_eq_getElem hk]; rfl
def i64 (n : Int) : Prop := -9223372036854775808 ≤ n ∧ n ≤ 9223372036854775807
def numOf (l : List UInt8) : Option Int := match Lib.atoiAll l with
 | .ok v => if Lib.itoa v = l then some v else none
 | _ => none
theorem atoiAll_bounds {l : List UInt8} {v : Int} (h : Lib.atoiAll l = .ok v) : -9223372036854775808 ≤ v ∧ v ≤ 9223372036854775807 := by
 unfold Lib.atoiAll at h
 split at h
 ·cases h
 ·dsimp only at h
  split at h
  ·cases h
  ·cases h
  ·split at h
   ·cases h
   ·split at h
    ·cases h
    ·injection h with h
     subst h
     split <;> omega
def numsOf : List (List UInt8) → Option (List Int)
 | [] => some []
 | w :: r => match numOf w with
  | none => none
  | some n => match numsOf r with
   | none => none
   | some ns => some (n :: ns)
namespace Pur
theorem flatMap_length {α : Type} {g : α → List PV} {m : Nat} (hg : ∀ x, (g x).length = m) : ∀ (l : List α), (l.flatMap g).length = l.length * m
 | [] => by simp
 | x :: r => by rw [List.flatMap_cons, List.length_append, hg, flatMap_length hg r, List.length_cons, Nat.succ_mul, Nat.add_comm]
theorem flatMap_get {α : Type} {g : α → List PV} {m : Nat} (hg : ∀ x, (g x).length = m) : ∀ (l : List α) (k : Nat) (d : α) (j : Nat), k < l.length → j < m → (l.flatMap g)[k * m + j]? = (g (l.getD k d))[j]?
 | [], k, _, _, h, _ => by simp at h
 | x :: r, 0, d, j, _, hj => by
  rw [List.flatMap_cons, List.getElem?_append_left (by rw [hg]; omega)]
  simp
 | x :: r, k + 1, d, j, h, hj => by
  rw [List.flatMap_cons, List.getElem?_append_right (by rw [hg, Nat.succ_mul]; omega), hg, show (k + 1) * m + j - m = k * m + j by rw [Nat.succ_mul]; omega, flatMap_get hg r k d j (by simpa using h) hj]
  simp
def intsP (l : List Int) : PV := .sl l.length (l.map (.int .i64))
def queryC (q : Query) : List PV := [.int .i64 q.1, .int .i64 q.2]
def queriesP (l : List Query) : PV := .sl l.length (l.flatMap queryC)
def fateC (f : Fate) : List PV := [.bool f.drop, .int .i64 f.delay, .int .i64 f.again]
def fatesP (l : List Fate) : PV := .sl l.length (l.flatMap fateC)
def stepC (x : Step) : List PV := [.int .i64 x.tick, .int .i64 x.kind, .int .i64 x.replica, .int .i64 x.other, .int .i64 x.session, .int .i64 x.action, .int .i64 x.after, queriesP x.queries, intsP x.survive, intsP x.voters]
def stepP (x : Step) : PV := .agg (stepC x)
def stepsP (l : List Step) : PV := .sl l.length (l.flatMap stepC)
def schedP (s : Sched) : PV := .agg [.int .i64 s.replicas, .int .i64 s.sessions, .int .i64 s.sectors, .int .i64 s.ticks, intsP s.state, fatesP s.fates, stepsP s.steps]
theorem queryC_len (x : Query) : (queryC x).length = 2 := rfl
theorem fateC_len (x : Fate) : (fateC x).length = 3 := rfl
theorem stepC_len (x : Step) : (stepC x).length = 10 := rfl
theorem fm_getD {α : Type} {g : α → List PV} {m : Nat} (hg : ∀ x, (g x).length = m) (l : List α) (k : Nat) (d : α) (j : Nat) (hk : k < l.length) (hj : j < m) (d' : PV) : (l.flatMap g).getD (k * m + j) d' = (g (l.getD k d)).getD j d' := by
 simp only [List.getD, flatMap_get hg l k d j hk hj]
theorem fm_getD0 {α : Type} {g : α → List PV} {m : Nat} (hg : ∀ x, (g x).length = m) (l : List α) (k : Nat) (d : α) (hk : k < l.length) (hm : 0 < m) (d' : PV) : (l.flatMap g).getD (k * m) d' = (g (l.getD k d)).getD 0 d' :=
 fm_getD hg l k d 0 hk hm d'
theorem fm_take {α : Type} {g : α → List PV} {m : Nat} (hg : ∀ x, (g x).length = m) (l : List α) (k : Nat) (d : α) (hk : k < l.length) : ((l.flatMap g).drop (k * m)).take m = g (l.getD k d) := by
 refine List.ext_getElem? fun j => ?_
 by_cases hj : j < m
 ·rw [List.getElem?_take, if_pos hj, List.getElem?_drop, flatMap_get hg l k d j hk hj]
 ·rw [List.getElem?_take, if_neg hj, List.getElem?_eq_none (by rw [hg]; omega)]
theorem take_succ_getD {α : Type} (l : List α) (k : Nat) (d : α) (hk : k < l.length) : l.take (k + 1) = l.take k ++ [l.getD k d] := by
 rw [List.take_add_one, List.getD, List.getElem?_eq_getElem hk]
 rfl
theorem all_step {α : Type} (p : α → Bool) (l : List α) (k : Nat) (d : α) (hk : k < l.length) : (l.take (k + 1)).all p = ((l.take k).all p && p (l.getD k d)) := by
 rw [take_succ_getD l k d hk, List.all_append]
 simp
theorem all_no {α : Type} {p : α → Bool} {l : List α} {k : Nat} {d : α} (hk : k < l.length) (h : p (l.getD k d) = false) : l.all p = false := by
 rw [List.all_eq_false]
 refine ⟨l.getD k d, ?_, by rw [h]; simp⟩
 rw [List.getD, List.getElem?_eq_getElem hk]
 exact List.getElem_mem hk
theorem getD_map {α : Type} (g : α → PV) (l : List α) (k : Nat) (d : α) (d' : PV) (h : k < l.length) : (l.map g).getD k d' = g (l.getD k d) := by
 simp [List.getD, List.getElem?_eq_getElem h]
theorem getD_ints (l : List Int) (k : Nat) (hk : k < l.length) : (l.map (PV.int .i64))[k]?.getD default = .int .i64 (l.getD k 0) := by
 simp [List.getD, List.getElem?_eq_getElem hk]
theorem asc_step (l : List Int) (k : Nat) (hk : k + 1 < l.length) : ascending (l.take (k + 2)) = (ascending (l.take (k + 1)) && decide (l.getD k 0 < l.getD (k + 1) 0)) := by
 induction l generalizing k with
 | nil => simp at hk
 | cons a r ih =>
  cases r with
  | nil => simp at hk
  | cons b r =>
   cases k with
   | zero => simp [ascending]
   | succ k =>
    have := ih k (by simpa using hk)
    simp only [List.take_succ_cons] at this ⊢
    simp only [ascending, this, List.getD_cons_succ, Bool.and_assoc]
theorem asc_take (l : List Int) : ∀ k, ascending l = true → ascending (l.take k) = true := by
 induction l with
 | nil => intro k _; simp [ascending]
 | cons a r ih =>
  intro k h
  cases r with
  | nil => cases k <;> simp [ascending]
  | cons b r =>
   simp only [ascending, Bool.and_eq_true] at h
   match k with
   | 0 => simp [ascending]
   | 1 => simp [ascending]
   | k + 2 =>
    have := ih (k + 1) h.2
    simp only [List.take_succ_cons] at this ⊢
    simp only [ascending, h.1, this, Bool.and_self]
end Pur
end Go.Proofs.YteokbngllldmdaaGreatDoor
namespace Go.Proofs.YteokbngllldmdaaGreatDoor
namespace Pur
open Go.RowKit
attribute [local go_sem] evOps evOp evOpV evRun evK argF List.map hintAt stripped get put tmpsOf tmpOf tmpO tmpL tmpP conds ev cond_true cond_false Nat.beq Nat.ble Nat.add quiet After thenR blockR IfD List.append_eq List.nil_append List.cons_append evInt exactI_a exactI_b exactI_c exactI_d exactI_e exactI_f evBin evStr evBool evUn guardC calm quiet.isCallK evPick List.getElem?_cons_zero List.getElem?_cons_succ fromCells fromPVs cellsOf List.all oneCell List.length_cons List.length_nil mkAgg plains List.drop List.take List.getD Option.getD_some bo1 bo2 ba1 ba2 bn1 bn2 kk_i64 kk_u8 kk_i32 kk_u64 setAt List.set Nat.reduceAdd Nat.reduceMul evCall safeCall refsOf refsIn scalarA scalar scalarL thawL mapAll thawArg thawRef after freeze RetD RetE evResult evRess evRes1 thaw_pv mkTup nilOf_a nilOf_b nilOf_bb nilOf_c nilOf_d nilOf_e nilOf_f nilOf_g nilOf_h nilOf_i nilOf_j nilOf_k nilOf_l nilOf_m eqLeaf_a eqLeaf_b eqLeaf_c eqOffs evMM bytesOf evOpsF AfterF footOf footRefs notIn indepF footAt freeOk still evParts fillA zeros intOfA boundA srcOf List.isEmpty appNil_0 appNil_1 appNil_2 Int.reduceToNat Nat.mul_one Nat.reduceSub evC evOpsT evOpsTF autoH tabHint look hintD strip guarded RetPD RetRD mpLen keysOk leafKA leafK bitI nilOf_n nilOf_o Bool.or_false Bool.or_true Bool.and_true Bool.and_false Nat.blt renF renM renB renV idxOf solF solM solA solV thawRef ev1
section
open Sch
def idxF {α : Type} (p : α → Bool) (l : List α) : Int := match l.findIdx? p with
 | some i => i
 | none => -1
theorem idxF_at {α : Type} {p : α → Bool} {l : List α} {d : α} {k : Nat} (hk : k < l.length) (hb : ∀ j, j < k → p (l.getD j d) = false) (h : p (l.getD k d) = true) : idxF p l = k := by
 have : l.findIdx? p = some k := by
  rw [List.findIdx?_eq_some_iff_getElem]
  refine ⟨hk, by simpa [List.getD, List.getElem?_eq_getElem hk] using h, fun j hj => ?_⟩
  have := hb j hj
  simpa [List.getD, List.getElem?_eq_getElem (show j < l.length by omega)] using this
 simp [idxF, this]
theorem idxF_no {α : Type} {p : α → Bool} {l : List α} {d : α} (hb : ∀ j, j < l.length → p (l.getD j d) = false) : idxF p l = -1 := by
 have : l.findIdx? p = none := by
  rw [List.findIdx?_eq_none_iff]
  intro x hx
  obtain ⟨j, hj, rfl⟩ := List.mem_iff_getElem.mp hx
  have := hb j hj
  simpa [List.getD, List.getElem?_eq_getElem hj] using this
 simp [idxF, this]
theorem idxF_has {α : Type} (p : α → Bool) (l : List α) : decide (idxF p l ≥ 0) = l.any p := by
 rw [Bool.eq_iff_iff]
 simp only [decide_eq_true_eq, List.any_eq_true]
 unfold idxF
 cases h : l.findIdx? p with
 | none =>
  rw [List.findIdx?_eq_none_iff] at h
  simp only [show ¬((-1 : Int) ≥ 0) by omega, false_iff]
  rintro ⟨x, hx, hp⟩
  rw [h x hx] at hp
  cases hp
 | some i =>
  rw [List.findIdx?_eq_some_iff_getElem] at h
  obtain ⟨hi, he, -⟩ := h
  simp only [show ((i : Int) ≥ 0) by omega, true_iff]
  exact ⟨_, List.getElem_mem hi, he⟩
theorem any_not {α : Type} (p : α → Bool) (l : List α) : (!l.any fun x => !p x) = l.all p := by
 induction l with
 | nil => rfl
 | cons x r ih => simp [← ih]
def allM (lo hi : Int) : AM := [⟨[.pv (.int .i64 lo)], 0, 1, 3, false⟩, ⟨[.pv (.int .i64 hi)], 0, 1, 3, false⟩]
theorem all1_ok (n lo hi : Int) : RefOK ctx 96 [.pv (.int .i64 n), .ptr 0 0 0, .ptr 1 0 0] (allM lo hi) (.pv (.bool (!between n lo hi))) (allM lo hi) := by
  refine ref_body' (C := ctx) (Fn.of fn96 rfl) rfl (by simp) rfl rfl ?_
  unfold c96
  repeat' (first
    | ((with_reducible first | show VCs _ | show All _); simp [vb, between_ok] <;> omega)
    | exact (rfl : some _ = _)
    | (fail_if_success refine awL ?_
       refine evT [(69, fun _ => some (.bool (between n lo hi)))] ?_
       repeat1' dsimp only [c96, allM, go_sem]
       first
       | refine aw4 ?_ ?_ rfl ?_
       | apply aw3
       | apply aw2
       | (refine awB (fun hc => ?_) fun hc => ?_ <;> first | (cases hc; done) | (exfalso; simp [between_ok] at hc <;> omega) | (try simp only [bn] at hc; try contradiction))
       | skip))
  exact ⟨⟨(by first | exact True.intro | (simp only [vb, lb]; omega) | (simp [vb] <;> omega)), rfl⟩, _, rfl⟩
theorem indexFI_ok (f : FuncId) (caps : List AV) (M : AM) (p : Int → Bool) (l : List Int) (hl : l.length ≤ 9223372036854775800) (hM : okMem M M.length = true) (hc : caps.all (bnd 2 M.length) = true)
    (h : ∀ x, RefOK ctx f (.pv (.int .i64 x) :: caps) M (.pv (.bool (p x))) M) : RefOK ctx 115 [.pv (intsP l), .fn f caps] M (.pv (.int .i64 (idxF p l))) M := by
  refine ref_body' (C := ctx) (Fn.of fn115 rfl) rfl (by simp) rfl hM ?_
  unfold c115
  repeat' (first
    | ((with_reducible first | show VCs _ | show All _); simp [vb] <;> omega)
    | exact (rfl : some _ = _)
    | (fail_if_success refine awL ?_
       refine evA ?_
       repeat1' dsimp only [c115, intsP, go_sem]
       first
       | refine aw4 ?_ ?_ rfl ?_
       | apply aw3
       | apply aw2
       | (refine awB (fun hc => ?_) fun hc => ?_ <;> first | (cases hc; done) | (exfalso; simp at hc <;> omega) | (try simp only [bn] at hc; try contradiction))
       | skip))
  refine aw_forP l.length (fun k => ∀ j, j < k → p (l.getD j 0) = false) (fun k => [(8, .pv (.int .i64 k)), (7, .pv (.int .i64 l.length)), (0, .pv (.sl l.length (l.map (.int .i64)))), (1, .fn f caps)]) (fun _ => M) (fun j hj => by omega) (by (repeat' (first | exact trivial | refine And.intro (by first | rfl | (simp [get, Nat.beq]; done) | (simp [get, Nat.beq]; omega) | (dsimp only [get]; congr 1 <;> first | rfl | omega | (simp; done) | (simp; omega))) ?_))) rfl fun k hk hP => ?_
  by_cases hk2 : k < l.length
  · have e := getD_map (PV.int .i64) l k 0 default hk2
    have hx := h (l.getD k 0)
    have hat := idxF_at hk2 hP
    have hP2 : p (l.getD k 0) = false → ∀ j, j < k + 1 → p (l.getD j 0) = false := fun h j hj => by
      by_cases hj2 : j = k
      · rw [hj2]; exact h
      · exact hP j (by omega)
    generalize l.getD k 0 = x at *
    generalize p x = b at *
    repeat' (first
      | ((with_reducible show VCs _); first | exact True.intro | (simp only [vb, lb]; omega) | (simp only [vb, lb, e, hx, hk2]; and_intros <;> first | omega | (simp <;> omega)) | (simp [vb, e, hx, hk2] <;> omega))
      | ((with_reducible show All _); first | exact True.intro | ((try dsimp only [go_sem]); first | (simp [vb, e, hx, hk2] <;> omega) | (simp only [vb, and_true, true_implies]; (repeat' (first | (with_reducible assumption) | (with_reducible apply And.intro) | intro _ | ((fail_if_success (with_reducible show (_ : Int) ≤ _)); assumption))) <;> first | omega | rfl | (simp only [ab, e, hx, hk2]; done) | (simp [Nat.mul_one, e, hx, hk2] <;> omega) | (simp_all; done))))
      | exact (rfl : some _ = _)
      | (fail_if_success refine awL ?_
         refine evH [(15, { val := some (.pv (.int .i64 x)) }), (16, { val := some (.pv (.bool b)), ro := true })] ?_
         repeat1' dsimp only [c115, go_sem]
         first
         | refine aw4 ?_ ?_ rfl ?_
         | apply aw3
         | apply aw2
         | (refine awB (fun hc => ?_) fun hc => ?_ <;> first | (cases hc; done) | (exfalso; first | (simp at hc <;> omega) | (simp [e, hx, hk2] at hc; done)) | (try simp only [bn] at hc; try contradiction))
         | skip))
    · exact ⟨⟨(by first | exact True.intro | (simp only [vb, lb]; omega) | (simp [vb] <;> omega)), by rw [hat hc]⟩, [], by simp⟩
    · exact ⟨hk2, hP2 hc, (by (repeat' (first | exact trivial | refine And.intro (by first | rfl | (simp [get, Nat.beq]; done) | (simp [get, Nat.beq]; omega) | (dsimp only [get]; congr 1 <;> first | rfl | omega | (simp; done) | (simp; omega))) ?_))), rfl⟩
  · have hk2 : k = l.length := by omega
    subst hk2
    repeat' (first
      | ((with_reducible first | show VCs _ | show All _); simp [vb] <;> omega)
      | exact (rfl : some _ = _)
      | (fail_if_success refine awL ?_
         refine evA ?_
         repeat1' dsimp only [c115, go_sem]
         first
         | refine aw4 ?_ ?_ rfl ?_
         | apply aw3
         | apply aw2
         | (refine awB (fun hc => ?_) fun hc => ?_ <;> first | (cases hc; done) | (exfalso; simp at hc <;> omega) | (try simp only [bn] at hc; try contradiction))
         | skip))
    exact ⟨⟨(by first | exact True.intro | (simp only [vb, lb]; omega) | (simp [vb] <;> omega)), by rw [idxF_no hP]⟩, [], by simp⟩
theorem containsFI_ok (f : FuncId) (caps : List AV) (M : AM) (p : Int → Bool) (l : List Int) (hl : l.length ≤ 9223372036854775800) (hM : okMem M M.length = true) (hc : caps.all (bnd 2 M.length) = true)
    (h : ∀ x, RefOK ctx f (.pv (.int .i64 x) :: caps) M (.pv (.bool (p x))) M) : RefOK ctx 95 [.pv (intsP l), .fn f caps] M (.pv (.bool (l.any p))) M := by
  have h := indexFI_ok f caps M p l hl hM hc h
  rw [← idxF_has]
  refine ref_body' (C := ctx) (Fn.of fn95 rfl) rfl (by simp) rfl hM ?_
  unfold c95
  repeat' (first
    | ((with_reducible first | show VCs _ | show All _); (try dsimp only [go_sem]); first | (simp [vb, h] <;> omega) | (simp only [vb, and_true, true_implies]; (repeat' (first | (with_reducible assumption) | (with_reducible apply And.intro) | intro _ | ((fail_if_success (with_reducible show (_ : Int) ≤ _)); assumption))) <;> first | omega | (simp only [ab, h]; done) | (simp [h] <;> omega)))
    | exact (rfl : some _ = _)
    | (fail_if_success refine awL ?_
       refine evH [(7, { val := some (.pv (.int .i64 (idxF p l))), ro := true })] ?_
       repeat1' dsimp only [c95, intsP, go_sem]
       first
       | refine aw4 ?_ ?_ rfl ?_
       | apply aw3
       | apply aw2
       | (refine awB (fun hc => ?_) fun hc => ?_ <;> first | (cases hc; done) | (exfalso; simp [h] at hc <;> omega) | (try simp only [bn] at hc; try contradiction))
       | skip))
  exact ⟨⟨(by first | exact True.intro | (simp only [vb, lb]; omega) | (simp [vb] <;> omega)), rfl⟩, [], by simp⟩
theorem all_ok (l : List Int) (lo hi : Int) (hm : l.length ≤ 9223372036854775800) : PureOK ctx 70 [intsP l, .int .i64 lo, .int .i64 hi] (.bool (allIn l lo hi)) := by
  have h := containsFI_ok 96 [.ptr 0 0 0, .ptr 1 0 0] (allM lo hi) (fun n => !between n lo hi) l hm rfl rfl (fun x => all1_ok x lo hi)
  refine pure_body' (C := ctx) (Fn.of fn70 rfl) rfl ?_
  unfold c70
  repeat' (first
    | ((with_reducible first | show VCs _ | show All _); (try dsimp only [go_sem]); first | (simp [vb, h] <;> omega) | (simp only [vb, and_true, true_implies]; (repeat' (first | (with_reducible assumption) | (with_reducible apply And.intro) | intro _ | ((fail_if_success (with_reducible show (_ : Int) ≤ _)); assumption))) <;> first | omega | (simp only [ab, h]; done) | (simp [h] <;> omega)))
    | exact (rfl : some _ = _)
    | (fail_if_success refine awL ?_
       refine evH [(9, { val := some (.pv (.bool (l.any fun n => !between n lo hi))), ro := true })] ?_
       repeat1' dsimp only [c70, intsP, allM, go_sem]
       first
       | refine aw4 ?_ ?_ rfl ?_
       | apply aw3
       | apply aw2
       | (refine awB (fun hc => ?_) fun hc => ?_ <;> first | (cases hc; done) | (exfalso; simp [h] at hc <;> omega) | (try simp only [bn] at hc; try contradiction))
       | skip))
  rw [any_not]
  rfl
end
section
open Sch
def c40 : ACode := (⟨_, by conv => (lhs; reduce; try simp only [lt1, Int.cast_ofNat_Int, Int.reduceNegSucc, UInt8.reduceOfNat])⟩ : {x // codeOf Tryz.prog 40 (fun _ => false) = some x}).1
theorem fn40 : fnOf Tryz.prog 40 (fun _ => false) = some (c40, [.t 2], 6, true) := by kernel_rfl
def c39 : ACode := (⟨_, by conv => (lhs; reduce; try simp only [lt1, Int.cast_ofNat_Int, Int.reduceNegSucc, UInt8.reduceOfNat])⟩ : {x // codeOf Tryz.prog 39 (fun _ => false) = some x}).1
theorem fn39 : fnOf Tryz.prog 39 (fun _ => false) = some (c39, [.t 4], 9, true) := by kernel_rfl
def c79 : ACode := (⟨_, by conv => (lhs; reduce; try simp only [lt1, Int.cast_ofNat_Int, Int.reduceNegSucc, UInt8.reduceOfNat])⟩ : {x // codeOf Tryz.prog 79 (fun _ => false) = some x}).1
theorem fn79 : fnOf Tryz.prog 79 (fun _ => false) = some (c79, [.t 4], 19, true) := by kernel_rfl
def c38 : ACode := (⟨_, by conv => (lhs; reduce; try simp only [lt1, Int.cast_ofNat_Int, Int.reduceNegSucc, UInt8.reduceOfNat])⟩ : {x // codeOf Tryz.prog 38 (fun _ => false) = some x}).1
theorem fn38 : fnOf Tryz.prog 38 (fun _ => false) = some (c38, [.t 2], 32, true) := by kernel_rfl
theorem valid1_ok (x : Fate) : PureOK ctx 40 [.agg (fateC x)] (.bool (!fateOk x)) := by
  have h := valid_ok x
  unfold fateP at h
  refine pure_body' (C := ctx) (Fn.of fn40 rfl) rfl ?_
  unfold c40
  repeat' (first
    | ((with_reducible first | show VCs _ | show All _); simp [vb, h] <;> omega)
    | exact (rfl : some _ = _)
    | (fail_if_success refine awL ?_
       refine evT [(41, fun _ => some (.bool (fateOk x)))] ?_
       repeat1' dsimp only [c40, fateC, go_sem]
       first
       | refine aw4 ?_ ?_ rfl ?_
       | apply aw3
       | apply aw2
       | (refine awB (fun hc => ?_) fun hc => ?_ <;> first | (cases hc; done) | (exfalso; simp [h] at hc <;> omega) | (try simp only [bn] at hc; try contradiction))
       | skip))
theorem indexFF_ok (f : FuncId) (p : Fate → Bool) (l : List Fate) (hl : l.length ≤ 9223372036854775800)
    (h : ∀ x, PureOK ctx f [.agg (fateC x)] (.bool (p x))) : PureOK ctx 79 [fatesP l, .val (.func (.func f) #[] #[])] (.int .i64 (idxF p l)) := by
  have hfl := flatMap_length fateC_len l
  refine pure_body' (C := ctx) (Fn.of fn79 rfl) rfl ?_
  unfold c79
  repeat' (first
    | ((with_reducible first | show VCs _ | show All _); simp [vb] <;> omega)
    | exact (rfl : some _ = _)
    | (fail_if_success refine awL ?_
       refine evA ?_
       repeat1' dsimp only [c79, fatesP, go_sem]
       first
       | refine aw4 ?_ ?_ rfl ?_
       | apply aw3
       | apply aw2
       | (refine awB (fun hc => ?_) fun hc => ?_ <;> first | (cases hc; done) | (exfalso; simp at hc <;> omega) | (try simp only [bn] at hc; try contradiction))
       | skip))
  refine aw_forP l.length (fun k => ∀ j, j < k → p (l.getD j ⟨false, 0, 0⟩) = false) (fun k => [(8, .pv (.int .i64 k)), (7, .pv (.int .i64 l.length)), (0, .pv (fatesP l)), (1, .pv (.val (.func (.func f) #[] #[])))]) (fun _ => []) (fun j hj => by omega) (by (repeat' (first | exact trivial | refine And.intro (by first | rfl | (simp [get, Nat.beq]; done) | (simp [get, Nat.beq]; omega) | (dsimp only [get]; congr 1 <;> first | rfl | omega | (simp; done) | (simp; omega))) ?_))) rfl fun k hk hP => ?_
  by_cases hk2 : k < l.length
  · have e := fm_take fateC_len l k ⟨false, 0, 0⟩ hk2
    have hx := h (l.getD k ⟨false, 0, 0⟩)
    have hat := idxF_at hk2 hP
    have hP2 : p (l.getD k ⟨false, 0, 0⟩) = false → ∀ j, j < k + 1 → p (l.getD j ⟨false, 0, 0⟩) = false := fun h j hj => by
      by_cases hj2 : j = k
      · rw [hj2]; exact h
      · exact hP j (by omega)
    generalize l.getD k ⟨false, 0, 0⟩ = x at *
    generalize p x = b at *
    repeat' (first
      | ((with_reducible first | show VCs _ | show All _); simp [vb, e, hx, hk2, hfl] <;> omega)
      | exact (rfl : some _ = _)
      | (fail_if_success refine awL ?_
         refine evH [(15, { val := some (.pv (.agg (fateC x))) }), (16, { val := some (.pv (.bool b)) })] ?_
         repeat1' dsimp only [c79, fatesP, go_sem]
         first
         | refine aw4 ?_ ?_ rfl ?_
         | apply aw3
         | apply aw2
         | (refine awB (fun hc => ?_) fun hc => ?_ <;> first | (cases hc; done) | (exfalso; simp [e, hx, hk2, hfl] at hc <;> omega) | (try simp only [bn] at hc; try contradiction))
         | skip))
    · rw [hat hc]
    · exact ⟨hk2, hP2 hc, (by (repeat' (first | exact trivial | refine And.intro (by first | rfl | (simp [get, Nat.beq]; done) | (simp [get, Nat.beq]; omega) | (dsimp only [get]; congr 1 <;> first | rfl | omega | (simp; done) | (simp; omega))) ?_))), rfl⟩
  · have hk2 : k = l.length := by omega
    subst hk2
    repeat' (first
      | ((with_reducible first | show VCs _ | show All _); simp [vb] <;> omega)
      | exact (rfl : some _ = _)
      | (fail_if_success refine awL ?_
         refine evA ?_
         repeat1' dsimp only [c79, go_sem]
         first
         | refine aw4 ?_ ?_ rfl ?_
         | apply aw3
         | apply aw2
         | (refine awB (fun hc => ?_) fun hc => ?_ <;> first | (cases hc; done) | (exfalso; simp at hc <;> omega) | (try simp only [bn] at hc; try contradiction))
         | skip))
    rw [idxF_no hP]
theorem containsFF_ok (f : FuncId) (p : Fate → Bool) (l : List Fate) (hl : l.length ≤ 9223372036854775800)
    (h : ∀ x, PureOK ctx f [.agg (fateC x)] (.bool (p x))) : PureOK ctx 39 [fatesP l, .val (.func (.func f) #[] #[])] (.bool (l.any p)) := by
  have h := indexFF_ok f p l hl h
  unfold fatesP at h
  rw [← idxF_has]
  refine pure_body' (C := ctx) (Fn.of fn39 rfl) rfl ?_
  unfold c39
  repeat' (first
    | ((with_reducible first | show VCs _ | show All _); simp [vb, h] <;> omega)
    | exact (rfl : some _ = _)
    | (fail_if_success refine awL ?_
       refine evH [(7, { val := some (.pv (.int .i64 (idxF p l))) })] ?_
       repeat1' dsimp only [c39, fatesP, go_sem]
       first
       | refine aw4 ?_ ?_ rfl ?_
       | apply aw3
       | apply aw2
       | (refine awB (fun hc => ?_) fun hc => ?_ <;> first | (cases hc; done) | (exfalso; simp [h] at hc <;> omega) | (try simp only [bn] at hc; try contradiction))
       | skip))
theorem head_ok (s : Sched) (hm : s.state.length ≤ 9223372036854775800) : PureOK ctx 38 [schedP s] (.bool (Sch.head s)) := by
  have h := all_ok s.state (-1000000) 1000000 hm
  unfold intsP at h
  refine pure_body' (C := ctx) (Fn.of fn38 rfl) rfl ?_
  unfold c38
  repeat' (first
    | ((with_reducible first | show VCs _ | show All _); simp [vb, h, between_ok] <;> omega)
    | exact (rfl : some _ = _)
    | (fail_if_success refine awL ?_
       refine evT [(69, fun l => match l with | [.int _ a, .int _ b, .int _ c] => some (.bool (between a b c)) | _ => none), (70, fun _ => some (.bool (allIn s.state (-1000000) 1000000)))] ?_
       repeat1' dsimp only [c38, schedP, intsP, fatesP, stepsP, go_sem]
       first
       | refine aw4 ?_ ?_ rfl ?_
       | apply aw3
       | apply aw2
       | (refine awB (fun hc => ?_) fun hc => ?_ <;> first | (cases hc; done) | (exfalso; simp [h, between_ok] at hc <;> omega) | (try simp only [bn] at hc; try contradiction))
       | skip))
  refine congrArg some (congrArg PV.bool ?_)
  rw [show decide ((s.state.length : Int) ≤ 128) = decide (s.state.length ≤ 128) from decide_eq_decide.mpr (by omega)]
  simp only [cond_and]
  rfl
end
section
open Sch
def c55 : ACode := (⟨_, by conv => (lhs; reduce; try simp only [lt1, Int.cast_ofNat_Int, Int.reduceNegSucc, UInt8.reduceOfNat])⟩ : {x // codeOf Tryz.prog 55 (fun _ => false) = some x}).1
theorem fn55 : fnOf Tryz.prog 55 (fun _ => false) = some (c55, [.t 4], 26, true) := by kernel_rfl
theorem equalI_ok (a b : List Int) (ha : a.length ≤ 9223372036854775800) (hb : b.length ≤ 9223372036854775800) : PureOK ctx 55 [intsP a, intsP b] (.bool (decide (a = b))) := by
  generalize hr : decide (a = b) = r
  refine pure_body' (C := ctx) (Fn.of fn55 rfl) rfl ?_
  unfold c55
  repeat' (first
    | ((with_reducible first | show VCs _ | show All _); simp [vb] <;> omega)
    | exact (rfl : some _ = _)
    | (fail_if_success refine awL ?_
       refine evA ?_
       repeat1' dsimp only [c55, intsP, go_sem]
       first
       | refine aw4 ?_ ?_ rfl ?_
       | apply aw3
       | apply aw2
       | (refine awB (fun hc => ?_) fun hc => ?_ <;> first | (cases hc; done) | (exfalso; simp at hc <;> omega) | (try simp only [bn] at hc; try contradiction))
       | skip))
  · rw [← hr]
    have : a ≠ b := by rintro rfl; exact hc rfl
    simp [this]
  have hn : a.length = b.length := by omega
  refine aw_forP a.length (fun k => a.take k = b.take k) (fun k => [(13, .pv (.int .i64 k)), (12, .pv (.int .i64 a.length)), (0, .pv (intsP a)), (1, .pv (intsP b))]) (fun _ => []) rfl (by (repeat' (first | exact trivial | refine And.intro (by first | rfl | (simp [get, Nat.beq]; done) | (simp [get, Nat.beq]; omega) | (dsimp only [get]; congr 1 <;> first | rfl | omega | (simp; done) | (simp; omega))) ?_))) rfl fun k hk hP => ?_
  by_cases hlt : k < a.length
  · have s1 := take_succ_getD a k 0 hlt
    have s2 := take_succ_getD b k 0 (by omega)
    have hne : a.getD k 0 ≠ b.getD k 0 → a ≠ b := fun h1 h2 => h1 (by rw [h2])
    have e1 := getD_map (PV.int .i64) a k 0 default hlt
    have e2 := getD_map (PV.int .i64) b k 0 default (by omega)
    generalize a.getD k 0 = x at *
    generalize b.getD k 0 = y at *
    repeat' (first
      | ((with_reducible show VCs _); first | exact True.intro | (simp only [vb, lb]; omega) | (simp only [vb, lb, e1, e2, hlt, hn]; and_intros <;> first | omega | (simp <;> omega)) | (simp [vb, e1, e2, hlt, hn] <;> omega))
      | ((with_reducible show All _); first | exact True.intro | ((try dsimp only [go_sem]); first | (simp [vb, e1, e2, hlt, hn] <;> omega) | (simp only [vb, and_true, true_implies]; (repeat' (first | (with_reducible assumption) | (with_reducible apply And.intro) | intro _ | ((fail_if_success (with_reducible show (_ : Int) ≤ _)); assumption))) <;> first | omega | rfl | (simp only [ab, e1, e2, hlt, hn]; done) | (simp [Nat.mul_one, e1, e2, hlt, hn] <;> omega) | (simp_all; done))))
      | exact (rfl : some _ = _)
      | (fail_if_success refine awL ?_
         refine evH [(19, { val := some (.pv (.int .i64 x)) }), (23, { val := some (.pv (.int .i64 y)) })] ?_
         repeat1' dsimp only [c55, intsP, go_sem]
         first
         | refine aw4 ?_ ?_ rfl ?_
         | apply aw3
         | apply aw2
         | (refine awB (fun hc => ?_) fun hc => ?_ <;> first | (cases hc; done) | (exfalso; first | (simp at hc <;> omega) | (simp [e1, e2, hlt, hn] at hc; done)) | (try simp only [bn] at hc; try contradiction))
         | skip))
    · rw [← hr]
      have := hne (by rintro rfl; simp at hc)
      simp [this]
    · refine ⟨hlt, ?_, by (repeat' (first | exact trivial | refine And.intro (by first | rfl | (simp [get, Nat.beq]; done) | (simp [get, Nat.beq]; omega) | (dsimp only [get]; congr 1 <;> first | rfl | omega | (simp; done) | (simp; omega))) ?_)), rfl⟩
      rw [s1, s2, hP, show x = y from hc]
  · have hk2 : k = a.length := by omega
    subst hk2
    rw [List.take_length, hn, List.take_length] at hP
    repeat' (first
      | ((with_reducible first | show VCs _ | show All _); simp [vb] <;> omega)
      | exact (rfl : some _ = _)
      | (fail_if_success refine awL ?_
         refine evA ?_
         repeat1' dsimp only [c55, go_sem]
         first
         | refine aw4 ?_ ?_ rfl ?_
         | apply aw3
         | apply aw2
         | (refine awB (fun hc => ?_) fun hc => ?_ <;> first | (cases hc; done) | (exfalso; simp at hc <;> omega) | (try simp only [bn] at hc; try contradiction))
         | skip))
    rw [← hr]
    simp [hP]
def c90 : ACode := (⟨_, by conv => (lhs; cbv; try simp only [lt1, Int.cast_ofNat_Int, Int.reduceNegSucc, UInt8.reduceOfNat])⟩ : {x // codeOf Tryz.prog 90 (fun _ => false) = some x}).1
theorem fn90 : fnOf Tryz.prog 90 (fun _ => false) = some (c90, [.t 4], 26, true) := by kernel_rfl
theorem equalQ_ok (a b : List Query) (ha : a.length ≤ 9223372036854775800) (hb : b.length ≤ 9223372036854775800) : PureOK ctx 90 [queriesP a, queriesP b] (.bool (decide (a = b))) := by
  generalize hr : decide (a = b) = r
  have f1 := flatMap_length queryC_len a
  have f2 := flatMap_length queryC_len b
  refine pure_body' (C := ctx) (Fn.of fn90 rfl) rfl ?_
  unfold c90
  repeat' (first
    | ((with_reducible first | show VCs _ | show All _); simp [vb] <;> omega)
    | exact (rfl : some _ = _)
    | (fail_if_success refine awL ?_
       refine evA ?_
       repeat1' dsimp only [c90, queriesP, go_sem]
       first
       | refine aw4 ?_ ?_ rfl ?_
       | apply aw3
       | apply aw2
       | (refine awB (fun hc => ?_) fun hc => ?_ <;> first | (cases hc; done) | (exfalso; simp at hc <;> omega) | (try simp only [bn] at hc; try contradiction))
       | skip))
  · rw [← hr]
    have : a ≠ b := by rintro rfl; exact hc rfl
    simp [this]
  have hn : a.length = b.length := by omega
  refine aw_forP a.length (fun k => a.take k = b.take k) (fun k => [(13, .pv (.int .i64 k)), (12, .pv (.int .i64 a.length)), (0, .pv (queriesP a)), (1, .pv (queriesP b))]) (fun _ => []) rfl (by (repeat' (first | exact trivial | refine And.intro (by first | rfl | (simp [get, Nat.beq]; done) | (simp [get, Nat.beq]; omega) | (dsimp only [get]; congr 1 <;> first | rfl | omega | (simp; done) | (simp; omega))) ?_))) rfl fun k hk hP => ?_
  by_cases hlt : k < a.length
  · have s1 := take_succ_getD a k (0, 0) hlt
    have s2 := take_succ_getD b k (0, 0) (by omega)
    have hne : a.getD k (0, 0) ≠ b.getD k (0, 0) → a ≠ b := fun h1 h2 => h1 (by rw [h2])
    have e1 := fm_take queryC_len a k (0, 0) hlt
    have e2 := fm_take queryC_len b k (0, 0) (by omega)
    generalize a.getD k (0, 0) = x at *
    generalize b.getD k (0, 0) = y at *
    repeat' (first
      | ((with_reducible first | show VCs _ | show All _); simp [vb, e1, e2, f1, f2, hlt, hn, queryC] <;> omega)
      | exact (rfl : some _ = _)
      | (fail_if_success refine awL ?_
         refine evH [(19, { val := some (.pv (.agg [.int .i64 x.1, .int .i64 x.2])) }), (23, { val := some (.pv (.agg [.int .i64 y.1, .int .i64 y.2])) })] ?_
         repeat1' dsimp only [c90, queriesP, go_sem]
         first
         | refine aw4 ?_ ?_ rfl ?_
         | apply aw3
         | apply aw2
         | (refine awB (fun hc => ?_) fun hc => ?_ <;> first | (cases hc; done) | (exfalso; simp [e1, e2, f1, f2, hlt, hn, queryC] at hc <;> omega) | (try simp only [bn] at hc; try contradiction))
         | skip))
    · rw [← hr]
      have := hne (by rintro rfl; simp at hc)
      simp [this]
    · refine ⟨hlt, ?_, by (repeat' (first | exact trivial | refine And.intro (by first | rfl | (simp [get, Nat.beq]; done) | (simp [get, Nat.beq]; omega) | (dsimp only [get]; congr 1 <;> first | rfl | omega | (simp; done) | (simp; omega))) ?_)), rfl⟩
      rw [s1, s2, hP, show x = y from by cases x; cases y; simp_all]
  · have hk2 : k = a.length := by omega
    subst hk2
    rw [List.take_length, hn, List.take_length] at hP
    repeat' (first
      | ((with_reducible first | show VCs _ | show All _); simp [vb] <;> omega)
      | exact (rfl : some _ = _)
      | (fail_if_success refine awL ?_
         refine evA ?_
         repeat1' dsimp only [c90, go_sem]
         first
         | refine aw4 ?_ ?_ rfl ?_
         | apply aw3
         | apply aw2
         | (refine awB (fun hc => ?_) fun hc => ?_ <;> first | (cases hc; done) | (exfalso; simp at hc <;> omega) | (try simp only [bn] at hc; try contradiction))
         | skip))
    rw [← hr]
    simp [hP]
def c56 : ACode := (⟨_, by conv => (lhs; cbv; try simp only [lt1, Int.cast_ofNat_Int, Int.reduceNegSucc, UInt8.reduceOfNat])⟩ : {x // codeOf Tryz.prog 56 (fun _ => false) = some x}).1
theorem fn56 : fnOf Tryz.prog 56 (fun _ => false) = some (c56, [.t 4], 26, true) := by kernel_rfl
theorem equalF_ok (a b : List Fate) (ha : a.length ≤ 9223372036854775800) (hb : b.length ≤ 9223372036854775800) : PureOK ctx 56 [fatesP a, fatesP b] (.bool (decide (a = b))) := by
  generalize hr : decide (a = b) = r
  have f1 := flatMap_length fateC_len a
  have f2 := flatMap_length fateC_len b
  refine pure_body' (C := ctx) (Fn.of fn56 rfl) rfl ?_
  unfold c56
  repeat' (first
    | ((with_reducible first | show VCs _ | show All _); simp [vb] <;> omega)
    | exact (rfl : some _ = _)
    | (fail_if_success refine awL ?_
       refine evA ?_
       repeat1' dsimp only [c56, fatesP, go_sem]
       first
       | refine aw4 ?_ ?_ rfl ?_
       | apply aw3
       | apply aw2
       | (refine awB (fun hc => ?_) fun hc => ?_ <;> first | (cases hc; done) | (exfalso; simp at hc <;> omega) | (try simp only [bn] at hc; try contradiction))
       | skip))
  · rw [← hr]
    have : a ≠ b := by rintro rfl; exact hc rfl
    simp [this]
  have hn : a.length = b.length := by omega
  refine aw_forP a.length (fun k => a.take k = b.take k) (fun k => [(13, .pv (.int .i64 k)), (12, .pv (.int .i64 a.length)), (0, .pv (fatesP a)), (1, .pv (fatesP b))]) (fun _ => []) rfl (by (repeat' (first | exact trivial | refine And.intro (by first | rfl | (simp [get, Nat.beq]; done) | (simp [get, Nat.beq]; omega) | (dsimp only [get]; congr 1 <;> first | rfl | omega | (simp; done) | (simp; omega))) ?_))) rfl fun k hk hP => ?_
  by_cases hlt : k < a.length
  · have s1 := take_succ_getD a k ⟨false, 0, 0⟩ hlt
    have s2 := take_succ_getD b k ⟨false, 0, 0⟩ (by omega)
    have hne : a.getD k ⟨false, 0, 0⟩ ≠ b.getD k ⟨false, 0, 0⟩ → a ≠ b := fun h1 h2 => h1 (by rw [h2])
    have e1 := fm_take fateC_len a k ⟨false, 0, 0⟩ hlt
    have e2 := fm_take fateC_len b k ⟨false, 0, 0⟩ (by omega)
    generalize a.getD k ⟨false, 0, 0⟩ = x at *
    generalize b.getD k ⟨false, 0, 0⟩ = y at *
    repeat' (first
      | ((with_reducible first | show VCs _ | show All _); simp [vb, e1, e2, f1, f2, hlt, hn, fateC] <;> omega)
      | exact (rfl : some _ = _)
      | (fail_if_success refine awL ?_
         refine evH [(19, { val := some (.pv (.agg [.bool x.drop, .int .i64 x.delay, .int .i64 x.again])) }), (23, { val := some (.pv (.agg [.bool y.drop, .int .i64 y.delay, .int .i64 y.again])) })] ?_
         repeat1' dsimp only [c56, fatesP, go_sem]
         first
         | refine aw4 ?_ ?_ rfl ?_
         | apply aw3
         | apply aw2
         | (refine awB (fun hc => ?_) fun hc => ?_ <;> first | (cases hc; done) | (exfalso; simp [e1, e2, f1, f2, hlt, hn, fateC] at hc <;> omega) | (try simp only [bn] at hc; try contradiction))
         | skip))
    · rw [← hr]
      have := hne (by rintro rfl; simp at hc)
      simp [this]
    · refine ⟨hlt, ?_, by (repeat' (first | exact trivial | refine And.intro (by first | rfl | (simp [get, Nat.beq]; done) | (simp [get, Nat.beq]; omega) | (dsimp only [get]; congr 1 <;> first | rfl | omega | (simp; done) | (simp; omega))) ?_)), rfl⟩
      rw [s1, s2, hP, show x = y from by cases x; cases y; simp_all]
  · have hk2 : k = a.length := by omega
    subst hk2
    rw [List.take_length, hn, List.take_length] at hP
    repeat' (first
      | ((with_reducible first | show VCs _ | show All _); simp [vb] <;> omega)
      | exact (rfl : some _ = _)
      | (fail_if_success refine awL ?_
         refine evA ?_
         repeat1' dsimp only [c56, go_sem]
         first
         | refine aw4 ?_ ?_ rfl ?_
         | apply aw3
         | apply aw2
         | (refine awB (fun hc => ?_) fun hc => ?_ <;> first | (cases hc; done) | (exfalso; simp at hc <;> omega) | (try simp only [bn] at hc; try contradiction))
         | skip))
    rw [← hr]
    simp [hP]
end
section
open Sch
def c66 : ACode := (⟨_, by conv => (lhs; reduce; try simp only [lt1, Int.cast_ofNat_Int, Int.reduceNegSucc, UInt8.reduceOfNat])⟩ : {x // codeOf Tryz.prog 66 (fun _ => false) = some x}).1
theorem fn66 : fnOf Tryz.prog 66 (fun _ => false) = some (c66, [.t 2, .t 3], 20, true) := by kernel_rfl
def c63 : ACode := (⟨_, by conv => (lhs; reduce; try simp only [lt1, Int.cast_ofNat_Int, Int.reduceNegSucc, UInt8.reduceOfNat])⟩ : {x // codeOf Tryz.prog 63 (fun _ => false) = some x}).1
theorem fn63 : fnOf Tryz.prog 63 (fun _ => false) = some (c63, [.t 2, .t 3], 28, true) := by kernel_rfl
def numV (l : List UInt8) : Int := match Lib.atoiAll l with
 | .ok v => v
 | .range => Lib.atoiSat l
 | _ => 0
theorem numOf_numV {l : List UInt8} {v : Int} (h : numOf l = some v) : numV l = v := by
 unfold numOf at h
 unfold numV
 split at h
 ·rename_i ha
  rw [ha]
  split at h
  ·injection h
  ·cases h
 ·cases h
theorem number_ok (l : List UInt8) (hl : l.length ≤ 281474976710656) : PureOK ctx 66 [.str l] (.tup [.int .i64 (numV l), .bool (numOf l).isSome]) := by
 have hA := atoi_ok l hl
 unfold atoiP at hA
 refine pure_body (C := ctx) (Fn.of fn66 rfl) rfl ?_
 refine aw_rs true [] ?_
 dsimp only [go_sem]
 refine ⟨trivial, trivial, ?_⟩
 cases ha : Lib.atoiAll l
 case ok v =>
  rw [ha] at hA
  have hI := itoa_ok v (atoiAll_bounds ha).1 (atoiAll_bounds ha).2
  refine aw_rs true [(1, { val := some (.pv (.tup [.int .i64 v, .val .nilIface])) })] ?_
  dsimp only [go_sem]
  refine ⟨by simp [VCs], ⟨hA, trivial⟩, ?_⟩
  refine aw_rs true [(5, { val := some (.pv (.str (Lib.itoa v))) })] ?_
  dsimp only [go_sem]
  refine ⟨trivial, by simp [All, VCs, hI], ?_⟩
  refine aw_retP ?_
  dsimp only [go_sem]
  refine ⟨trivial, ?_⟩
  by_cases hi : Lib.itoa v = l
  ·simp [numV, numOf, ha, hi]
  ·simp [numV, numOf, ha, hi]
 case range =>
  rw [ha] at hA
  refine aw_rs true [(1, { val := some (.pv (.tup [.int .i64 (Lib.atoiSat l), .iface])) })] ?_
  dsimp only [go_sem]
  refine ⟨by simp [VCs], ⟨hA, trivial⟩, ?_⟩
  refine aw_rs true [(5, { val := some (.pv (.str [])) })] ?_
  dsimp only [go_sem]
  refine ⟨trivial, by simp [All, VCs], ?_⟩
  refine aw_retP ?_
  dsimp only [go_sem]
  exact ⟨trivial, by simp [numV, numOf, ha]⟩
 ·rw [ha] at hA
  refine aw_rs true [(1, { val := some (.pv (.tup [.int .i64 0, .iface])) })] ?_
  dsimp only [go_sem]
  refine ⟨by simp [VCs], ⟨hA, trivial⟩, ?_⟩
  refine aw_rs true [(5, { val := some (.pv (.str [])) })] ?_
  dsimp only [go_sem]
  refine ⟨trivial, by simp [All, VCs], ?_⟩
  refine aw_retP ?_
  dsimp only [go_sem]
  exact ⟨trivial, by simp [numV, numOf, ha]⟩
def numsOf : List (List UInt8) → Option (List Int)
 | [] => some []
 | w :: r => match numOf w, numsOf r with
  | some n, some l => some (n :: l)
  | _, _ => none
theorem numsOf_append (a b : List (List UInt8)) : numsOf (a ++ b) = match numsOf a, numsOf b with
  | some x, some y => some (x ++ y)
  | _, _ => none := by
 induction a with
 | nil => simp only [List.nil_append, numsOf]; cases numsOf b <;> rfl
 | cons w r ih =>
  simp only [List.cons_append, numsOf, ih]
  cases numOf w <;> cases numsOf r <;> cases numsOf b <;> rfl
def wordsP (l : List (List UInt8)) : PV := .sl l.length (l.map .str)
def rowV : List Int → AV
 | [] => .pv .nilsl
 | _ :: r => .ref 0 r.length 0 (r.length + 1)
def rowM : List Int → AM
 | [] => []
 | n :: r => [⟨(n :: r).map fun x => .pv (.int .i64 x), r.length, 1, 3, false⟩]
theorem rowV_nil : rowV [] = .pv .nilsl := rfl
theorem rowV_cons (n : Int) (r : List Int) : rowV (n :: r) = .ref 0 r.length 0 (r.length + 1) := rfl
theorem rowM_nil : rowM [] = [] := rfl
theorem rowM_cons (n : Int) (r : List Int) : rowM (n :: r) = [⟨(n :: r).map fun x => .pv (.int .i64 x), r.length, 1, 3, false⟩] := rfl
def numsP : List Int → PV
 | [] => .nilsl
 | n :: r => .sl (r.length + 1) ((n :: r).map (.int .i64))
theorem numbers_ok (xs : List (List UInt8)) (hm : xs.length ≤ 1000000) (hl : ∀ w ∈ xs, w.length ≤ 281474976710656) :
  PureOK ctx 63 [wordsP xs] (match numsOf xs with
   | some l => .tup [numsP l, .bool true]
   | none => .tup [.nilsl, .bool false]) := by
 generalize hr : (match numsOf xs with
   | some l => PV.tup [numsP l, .bool true]
   | none => .tup [.nilsl, .bool false]) = res
 refine pure_body (C := ctx) (Fn.of fn63 rfl) rfl ?_
 refine aw_rs true [] ?_
 dsimp only [wordsP, go_sem]
 refine ⟨trivial, trivial, ?_⟩
 refine aw_rs true [] ?_
 dsimp only [go_sem]
 refine ⟨trivial, trivial, ?_⟩
 refine aw_sss ?_
 refine aw_reg true [] ?_
 dsimp only [go_sem]
 refine ⟨trivial, trivial, ?_⟩
 refine aw_block ?_
 refine aw_loop (fun k f μ => ∃ done rest ns, xs = done ++ rest ∧ k = rest.length ∧ numsOf done = some ns ∧ ns.length = done.length ∧ μ = rowM ns ∧
  Sub [(11, .pv (.int .i64 done.length)), (10, .pv (.int .i64 xs.length)), (9, .pv (.sl xs.length (xs.map .str))), (4, rowV ns)] f) ?_ xs.length ?_
 ·rintro k f μ ⟨done, rest, ns, hx, rfl, hn, hlen, rfl, hs⟩
  refine aw_frame _ hs ?_
  clear hs
  refine aw_rs true [] ?_
  dsimp only [go_sem]
  refine ⟨trivial, trivial, ?_⟩
  refine aw_is ?_
  dsimp only [go_sem]
  have hxl : xs.length = done.length + rest.length := by rw [hx, List.length_append]
  cases rest with
  | nil =>
   refine ⟨fun h => ?_, fun _ => ?_⟩
   ·simp at h hxl
    omega
   ·refine aw_exit ?_
    dsimp only [go_sem]
    refine aw_rs false [] ?_
    dsimp only [go_sem]
    refine ⟨trivial, trivial, ?_⟩
    refine aw_retP ?_
    rw [List.append_nil] at hx
    subst hx
    rw [hn] at hr
    subst hr
    cases ns with
    | nil => exact ⟨trivial, rfl⟩
    | cons n r =>
     dsimp only [rowV_cons, rowM_cons, numsP, go_sem]
     refine ⟨trivial, thaw_tup2 (thaw_row rfl rfl rfl ?_ ?_) rfl⟩
     ·simp only [List.drop_zero, Nat.mul_one, List.map_cons, List.map_map]
      rw [List.take_of_length_le (by simp)]
      rfl
     ·simp
  | cons wd rest =>
   refine ⟨fun _ => ?_, fun h => ?_⟩
   ·refine aw_skip ?_
    dsimp only [go_sem]
    refine aw_seq ?_
    refine aw_block ?_
    refine aw_rs true [(1, { val := some (.pv (.str wd)) })] ?_
    dsimp only [go_sem]
    have hxl2 : xs.length = done.length + (rest.length + 1) := by rw [hxl, List.length_cons]
    refine ⟨by simp [VCs]; omega, by simp [All, hx], ?_⟩
    refine aw_rs false [(1, { val := some (.pv (.tup [.int .i64 (numV wd), .bool (numOf wd).isSome])) })] ?_
    dsimp only [go_sem]
    refine ⟨by simp [VCs], ⟨number_ok wd (hl wd (by simp [hx])), trivial⟩, ?_⟩
    refine aw_sss ?_
    refine aw_reg false [] ?_
    dsimp only [go_sem]
    refine ⟨trivial, trivial, ?_⟩
    refine aw_if ?_
    dsimp only [go_sem]
    cases hnw : numOf wd with
    | none =>
     refine ⟨fun _ => ?_, fun h => by simp at h⟩
     refine aw_rs false [] ?_
     dsimp only [go_sem]
     refine ⟨trivial, trivial, ?_⟩
     refine aw_ret ?_
     have hnone : numsOf xs = none := by
      rw [hx, numsOf_append, hn]
      simp [numsOf, hnw]
     rw [hnone] at hr
     subst hr
     exact ⟨_, _, rfl, trivial, rfl⟩
    | some v =>
     refine ⟨fun h => by simp at h, fun _ => ?_⟩
     refine aw_skip ?_
     dsimp only [go_sem]
     have hnv := numOf_numV hnw
     have hn2 : numsOf (done ++ [wd]) = some (ns ++ [v]) := by
      rw [numsOf_append, hn]
      simp [numsOf, hnw]
     have hend : ∀ f μ, μ = rowM (ns ++ [v]) → Sub [(11, .pv (.int .i64 (done.length + 1))), (10, .pv (.int .i64 xs.length)), (9, .pv (.sl xs.length (xs.map .str))), (4, rowV (ns ++ [v]))] f →
       ∃ j, j < rest.length + 1 ∧ ∃ done rest ns', xs = done ++ rest ∧ j = rest.length ∧ numsOf done = some ns' ∧ ns'.length = done.length ∧ μ = rowM ns' ∧
        Sub [(11, .pv (.int .i64 done.length)), (10, .pv (.int .i64 xs.length)), (9, .pv (.sl xs.length (xs.map .str))), (4, rowV ns')] f := fun f μ hμ hf =>
      ⟨rest.length, by omega, done ++ [wd], rest, ns ++ [v], by simp [hx], rfl, hn2, by simp [hlen], hμ, by simpa using hf⟩
     generalize hI : (fun (f' : AF) (μ' : AM) => ∃ j, j < rest.length + 1 ∧ ∃ done rest ns, xs = done ++ rest ∧ j = rest.length ∧ numsOf done = some ns ∧ ns.length = done.length ∧ μ' = rowM ns ∧
       Sub [(11, .pv (.int .i64 done.length)), (10, .pv (.int .i64 xs.length)), (9, .pv (.sl xs.length (xs.map .str))), (4, rowV ns)] f') = I
     cases ns with
     | nil =>
      refine aw_reg false [] ?_
      dsimp only [rowV_nil, rowM_nil, go_sem]
      refine ⟨by simp [VCs, maxI], trivial, ?_⟩
      refine aw_reg false [] ?_
      dsimp only [go_sem]
      simp only [List.length_nil] at hlen
      refine ⟨by simp [VCs, minI, maxI]; omega, trivial, ?_⟩
      subst hI hnv
      exact hend _ _ rfl ⟨rfl, rfl, rfl, rfl, trivial⟩
     | cons n r =>
      simp only [List.length_cons] at hlen
      refine aw_reg false [] ?_
      dsimp only [rowV_cons, rowM_cons, go_sem]
      refine ⟨by simp [VCs, maxI]; omega, trivial, ?_⟩
      refine aw_reg false [] ?_
      dsimp only [go_sem]
      refine ⟨by simp [VCs, minI, maxI]; omega, trivial, ?_⟩
      subst hI hnv
      refine hend _ _ ?_ ⟨rfl, rfl, rfl, ?_, trivial⟩
      ·simp [rowM]
      ·simp [rowV, get, Nat.beq]
   ·simp at h hxl
    omega
 ·exact ⟨[], xs, [], rfl, rfl, rfl, rfl, rfl, rfl, rfl, rfl, rfl, trivial⟩
end
section
open Sch
def c64 : ACode := (⟨_, by conv => (lhs; reduce; try simp only [lt1, Int.cast_ofNat_Int, Int.reduceNegSucc, UInt8.reduceOfNat])⟩ : {x // codeOf Tryz.prog 64 (fun _ => false) = some x}).1
theorem fn64 : fnOf Tryz.prog 64 (fun _ => false) = some (c64, [.t 0, .t 1], 4, true) := by kernel_rfl
def c58 : ACode := (⟨_, by conv => (lhs; reduce; try simp only [lt1, Int.cast_ofNat_Int, Int.reduceNegSucc, UInt8.reduceOfNat])⟩ : {x // codeOf Tryz.prog 58 (fun _ => false) = some x}).1
theorem fn58 : fnOf Tryz.prog 58 (fun _ => false) = some (c58, [.t 4], 73, true) := by kernel_rfl
def c100 : ACode := (⟨_, by conv => (lhs; reduce; try simp only [lt1, Int.cast_ofNat_Int, Int.reduceNegSucc, UInt8.reduceOfNat])⟩ : {x // codeOf Tryz.prog 100 (fun _ => false) = some x}).1
theorem fn100 : fnOf Tryz.prog 100 (fun _ => false) = some (c100, [.cell 2 10 true], 49, true) := by kernel_rfl
def c101 : ACode := (⟨_, by conv => (lhs; reduce; try simp only [lt1, Int.cast_ofNat_Int, Int.reduceNegSucc, UInt8.reduceOfNat])⟩ : {x // codeOf Tryz.prog 101 (fun _ => false) = some x}).1
theorem fn101 : fnOf Tryz.prog 101 (fun _ => false) = some (c101, [.t 3], 17, true) := by kernel_rfl
def c102 : ACode := (⟨_, by conv => (lhs; reduce; try simp only [lt1, Int.cast_ofNat_Int, Int.reduceNegSucc, UInt8.reduceOfNat])⟩ : {x // codeOf Tryz.prog 102 (fun _ => false) = some x}).1
theorem fn102 : fnOf Tryz.prog 102 (fun _ => false) = some (c102, [.t 4], 9, true) := by kernel_rfl
def c116 : ACode := (⟨_, by conv => (lhs; reduce; try simp only [lt1, Int.cast_ofNat_Int, Int.reduceNegSucc, UInt8.reduceOfNat])⟩ : {x // codeOf Tryz.prog 116 (fun _ => false) = some x}).1
theorem fn116 : fnOf Tryz.prog 116 (fun _ => false) = some (c116, [.t 4], 19, true) := by kernel_rfl
def c80 : ACode := (⟨_, by conv => (lhs; reduce; try simp only [lt1, Int.cast_ofNat_Int, Int.reduceNegSucc, UInt8.reduceOfNat])⟩ : {x // codeOf Tryz.prog 80 (fun _ => false) = some x}).1
theorem fn80 : fnOf Tryz.prog 80 (fun _ => false) = some (c80, [.t 4], 142, true) := by kernel_rfl
theorem canon_agg (d : Nat) (l : List PV) : canon (d + 1) (.agg l) = .agg (l.map (canon d)) := rfl
theorem canon_sl (d n : Nat) (l : List PV) : canon (d + 1) (.sl n l) = .sl n (l.map (canon d)) := rfl
theorem canon_int (d : Nat) (k : IntKind) (n : Int) : canon d (.int k n) = .int k n := by cases d <;> rfl
theorem canon_ints (d : Nat) (l : List Int) : canon (d + 1) (intsP l) = intsP l := by
 simp [canon_sl, intsP, Function.comp_def, canon_int]
theorem canon_queries (d : Nat) (l : List Query) : canon (d + 1) (queriesP l) = queriesP l := by
 rw [queriesP, canon_sl, List.map_flatMap]
 simp only [queryC, List.map_cons, List.map_nil, canon_int]
 rfl
def kindWords : List (List UInt8) := [[115, 117, 98, 109, 105, 116], [114, 101, 97, 100], [99, 117, 116], [104, 101, 97, 108], [99, 114, 97, 115, 104], [114, 101, 115, 116, 97, 114, 116], [118, 111, 116, 101, 114, 115]]
def queryWords : List (List UInt8) := [[118, 97, 108, 117, 101], [118, 105, 115, 105, 98, 108, 101], [109, 101, 114, 103, 101, 100]]
theorem words_ok : PureOK ctx 64 [] (.tup [wordsP kindWords, wordsP queryWords]) := by
 refine pure_body' (C := ctx) (Fn.of fn64 rfl) rfl ?_
 unfold c64
 iterate 5 first
  | refine ⟨by simp [vb] <;> omega, by simp [vb] <;> omega, ?_⟩
  | (refine evA ?_; iterate 2 (try dsimp only [go_sem]))
 exact ⟨trivial, rfl⟩
def onlyR (x : Step) : PV :=
 if x.kind = 0 then .agg [.int .i64 x.tick, .int .i64 x.kind, .int .i64 x.replica, .int .i64 0, .int .i64 x.session, .int .i64 x.action, .int .i64 0, .nilsl, .nilsl, .nilsl]
 else if x.kind = 1 then .agg [.int .i64 x.tick, .int .i64 x.kind, .int .i64 x.replica, .int .i64 0, .int .i64 x.session, .int .i64 0, .int .i64 0, queriesP x.queries, .nilsl, .nilsl]
 else if x.kind = 2 ∨ x.kind = 3 then .agg [.int .i64 x.tick, .int .i64 x.kind, .int .i64 x.replica, .int .i64 x.other, .int .i64 0, .int .i64 0, .int .i64 0, .nilsl, .nilsl, .nilsl]
 else if x.kind = 4 then .agg [.int .i64 x.tick, .int .i64 x.kind, .int .i64 x.replica, .int .i64 0, .int .i64 0, .int .i64 0, .int .i64 x.after, .nilsl, intsP x.survive, .nilsl]
 else if x.kind = 6 then .agg [.int .i64 x.tick, .int .i64 x.kind, .int .i64 x.replica, .int .i64 0, .int .i64 0, .int .i64 0, .int .i64 0, .nilsl, .nilsl, intsP x.voters]
 else .agg [.int .i64 x.tick, .int .i64 x.kind, .int .i64 x.replica, .int .i64 0, .int .i64 0, .int .i64 0, .int .i64 0, .nilsl, .nilsl, .nilsl]
theorem onlyR_canon (x : Step) : canon 3 (onlyR x) = stepP (fieldsOf x) := by
 unfold onlyR fieldsOf
 dsimp only
 repeat' split
 all_goals simp only [canon_agg, List.map_cons, List.map_nil, canon_int, canon_ints, canon_queries]
 all_goals rfl
def vsM (s : Sched) (x : Step) : AM := [⟨[.pv (.int .i64 s.replicas), .pv (.int .i64 s.sessions), .pv (.int .i64 s.sectors), .pv (.int .i64 s.ticks), .pv (intsP s.state), .pv (fatesP s.fates), .pv (stepsP s.steps)], 0, 7, 27, false⟩, ⟨(stepC x).map .pv, 0, 10, 41, false⟩]
set_option maxHeartbeats 4000000 in
theorem sameStep_ok (x y : Step) (hx : Sizes x) (hy : Sizes y) : PureOK ctx 58 [stepP x, stepP y] (.bool (sameStep x y)) := by
  have h1 := equalQ_ok x.queries y.queries hx.q hy.q
  have h2 := equalI_ok x.survive y.survive hx.s hy.s
  have h3 := equalI_ok x.voters y.voters hx.t hy.t
  refine pure_body' (C := ctx) (Fn.of fn58 rfl) rfl ?_
  unfold c58
  repeat' (first
    | ((with_reducible first | show VCs _ | show All _); (try dsimp only [go_sem]); first | (simp [vb, h1, h2, h3] <;> omega) | (simp only [vb, and_true, true_implies]; (repeat' (first | (with_reducible assumption) | (with_reducible apply And.intro) | intro _ | ((fail_if_success (with_reducible show (_ : Int) ≤ _)); assumption))) <;> first | omega | (simp only [ab, h1, h2, h3]; done) | (simp [h1, h2, h3] <;> omega)))
    | exact (rfl : some _ = _)
    | (fail_if_success refine awL ?_
       refine evH [(57, { val := some (.pv (.bool (decide (x.queries = y.queries)))) }), (64, { val := some (.pv (.bool (decide (x.survive = y.survive)))) }), (71, { val := some (.pv (.bool (decide (x.voters = y.voters)))) })] ?_
       repeat1' dsimp only [c58, stepP, stepC, go_sem]
       first
       | refine aw4 ?_ ?_ rfl ?_
       | apply aw3
       | apply aw2
       | (refine awB (fun hc => ?_) fun hc => ?_ <;> first | (cases hc; done) | (exfalso; simp [h1, h2, h3] at hc <;> omega) | (try simp only [bn] at hc; try contradiction))
       | skip))
  simp only [cond_and]
  rfl
theorem fields_ok (x : Step) : PureOK ctx 100 [stepP x] (stepP (fieldsOf x)) := by
  have key : PureOK ctx 100 [stepP x] (onlyR x) := by
    unfold onlyR
    repeat' split
    all_goals
      refine pure_body' (C := ctx) (Fn.of fn100 rfl) rfl ?_
      unfold c100
      repeat' (first
        | ((with_reducible first | show VCs _ | show All _); simp [vb] <;> omega)
        | exact (rfl : some _ = _)
        | (fail_if_success refine awL ?_
           refine evA ?_
           repeat1' dsimp only [c100, stepP, stepC, queriesP, intsP, go_sem]
           first
           | refine aw4 ?_ ?_ rfl ?_
           | apply aw3
           | apply aw2
           | (refine awB (fun hc => ?_) fun hc => ?_ <;> first | (cases hc; done) | (exfalso; simp at hc <;> omega) | (try simp only [bn] at hc; try contradiction))
           | skip))
  have := key.canon_res 3
  rwa [onlyR_canon] at this
def posM (s : Sched) (x : Step) : AM := vsM s x ++ [⟨[.pv (wordsP queryWords)], 0, 1, 46, false⟩]
theorem possible1_ok (s : Sched) (x : Step) (q : Query) : RefOK ctx 101 [.pv (.agg (queryC q)), .ptr 2 0 0] (posM s x) (.pv (.bool (!queryOk q))) (posM s x) := by
  refine ref_body' (C := ctx) (Fn.of fn101 rfl) rfl (by simp) rfl rfl ?_
  unfold c101
  repeat' (first
    | ((with_reducible first | show VCs _ | show All _); simp [vb, between_ok] <;> omega)
    | exact (rfl : some _ = _)
    | (fail_if_success refine awL ?_
       refine evT [(69, fun l => match l with | [.int _ a, .int _ b, .int _ c] => some (.bool (between a b c)) | _ => none)] ?_
       repeat1' dsimp only [c101, posM, vsM, stepC, queryC, queryWords, wordsP, go_sem]
       first
       | refine aw4 ?_ ?_ rfl ?_
       | apply aw3
       | apply aw2
       | (refine awB (fun hc => ?_) fun hc => ?_ <;> first | (cases hc; done) | (exfalso; simp [between_ok] at hc <;> omega) | (try simp only [bn] at hc; try contradiction))
       | skip))
  refine ⟨⟨(by first | exact True.intro | (simp only [vb, lb]; omega) | (simp [vb] <;> omega)), ?_⟩, _, rfl⟩
  rw [cond_or, queryOk, Bool.not_and]
  rfl
theorem indexFQ_ok (f : FuncId) (caps : List AV) (M : AM) (p : Query → Bool) (l : List Query) (hl : l.length ≤ 9223372036854775800) (hM : okMem M M.length = true) (hc : caps.all (bnd 2 M.length) = true)
    (h : ∀ x, RefOK ctx f (.pv (.agg (queryC x)) :: caps) M (.pv (.bool (p x))) M) : RefOK ctx 116 [.pv (queriesP l), .fn f caps] M (.pv (.int .i64 (idxF p l))) M := by
  have hfl := flatMap_length queryC_len l
  refine ref_body' (C := ctx) (Fn.of fn116 rfl) rfl (by simp) rfl hM ?_
  unfold c116
  repeat' (first
    | ((with_reducible first | show VCs _ | show All _); simp [vb] <;> omega)
    | exact (rfl : some _ = _)
    | (fail_if_success refine awL ?_
       refine evA ?_
       repeat1' dsimp only [c116, queriesP, go_sem]
       first
       | refine aw4 ?_ ?_ rfl ?_
       | apply aw3
       | apply aw2
       | (refine awB (fun hc => ?_) fun hc => ?_ <;> first | (cases hc; done) | (exfalso; simp at hc <;> omega) | (try simp only [bn] at hc; try contradiction))
       | skip))
  refine aw_forP l.length (fun k => ∀ j, j < k → p (l.getD j (0, 0)) = false) (fun k => [(8, .pv (.int .i64 k)), (7, .pv (.int .i64 l.length)), (0, .pv (queriesP l)), (1, .fn f caps)]) (fun _ => M) (fun j hj => by omega) (by (repeat' (first | exact trivial | refine And.intro (by first | rfl | (simp [get, Nat.beq]; done) | (simp [get, Nat.beq]; omega) | (dsimp only [get]; congr 1 <;> first | rfl | omega | (simp; done) | (simp; omega))) ?_))) rfl fun k hk hP => ?_
  by_cases hk2 : k < l.length
  · have e := fm_take queryC_len l k (0, 0) hk2
    have hx := h (l.getD k (0, 0))
    have hat := idxF_at hk2 hP
    have hP2 : p (l.getD k (0, 0)) = false → ∀ j, j < k + 1 → p (l.getD j (0, 0)) = false := fun h j hj => by
      by_cases hj2 : j = k
      · rw [hj2]; exact h
      · exact hP j (by omega)
    generalize l.getD k (0, 0) = x at *
    generalize p x = b at *
    repeat' (first
      | ((with_reducible first | show VCs _ | show All _); simp [vb, e, hx, hk2, hfl] <;> omega)
      | exact (rfl : some _ = _)
      | (fail_if_success refine awL ?_
         refine evH [(15, { val := some (.pv (.agg (queryC x))) }), (16, { val := some (.pv (.bool b)), ro := true })] ?_
         repeat1' dsimp only [c116, queriesP, go_sem]
         first
         | refine aw4 ?_ ?_ rfl ?_
         | apply aw3
         | apply aw2
         | (refine awB (fun hc => ?_) fun hc => ?_ <;> first | (cases hc; done) | (exfalso; simp [e, hx, hk2, hfl] at hc <;> omega) | (try simp only [bn] at hc; try contradiction))
         | skip))
    · exact ⟨⟨(by first | exact True.intro | (simp only [vb, lb]; omega) | (simp [vb] <;> omega)), by rw [hat hc]⟩, [], by simp⟩
    · exact ⟨hk2, hP2 hc, (by (repeat' (first | exact trivial | refine And.intro (by first | rfl | (simp [get, Nat.beq]; done) | (simp [get, Nat.beq]; omega) | (dsimp only [get]; congr 1 <;> first | rfl | omega | (simp; done) | (simp; omega))) ?_))), rfl⟩
  · have hk2 : k = l.length := by omega
    subst hk2
    repeat' (first
      | ((with_reducible first | show VCs _ | show All _); simp [vb] <;> omega)
      | exact (rfl : some _ = _)
      | (fail_if_success refine awL ?_
         refine evA ?_
         repeat1' dsimp only [c116, go_sem]
         first
         | refine aw4 ?_ ?_ rfl ?_
         | apply aw3
         | apply aw2
         | (refine awB (fun hc => ?_) fun hc => ?_ <;> first | (cases hc; done) | (exfalso; simp at hc <;> omega) | (try simp only [bn] at hc; try contradiction))
         | skip))
    exact ⟨⟨(by first | exact True.intro | (simp only [vb, lb]; omega) | (simp [vb] <;> omega)), by rw [idxF_no hP]⟩, [], by simp⟩
theorem containsFQ_ok (f : FuncId) (caps : List AV) (M : AM) (p : Query → Bool) (l : List Query) (hl : l.length ≤ 9223372036854775800) (hM : okMem M M.length = true) (hc : caps.all (bnd 2 M.length) = true)
    (h : ∀ x, RefOK ctx f (.pv (.agg (queryC x)) :: caps) M (.pv (.bool (p x))) M) : RefOK ctx 102 [.pv (queriesP l), .fn f caps] M (.pv (.bool (l.any p))) M := by
  have h := indexFQ_ok f caps M p l hl hM hc h
  unfold queriesP at h
  rw [← idxF_has]
  refine ref_body' (C := ctx) (Fn.of fn102 rfl) rfl (by simp) rfl hM ?_
  unfold c102
  repeat' (first
    | ((with_reducible first | show VCs _ | show All _); simp [vb, h] <;> omega)
    | exact (rfl : some _ = _)
    | (fail_if_success refine awL ?_
       refine evH [(7, { val := some (.pv (.int .i64 (idxF p l))), ro := true })] ?_
       repeat1' dsimp only [c102, queriesP, go_sem]
       first
       | refine aw4 ?_ ?_ rfl ?_
       | apply aw3
       | apply aw2
       | (refine awB (fun hc => ?_) fun hc => ?_ <;> first | (cases hc; done) | (exfalso; simp [h] at hc <;> omega) | (try simp only [bn] at hc; try contradiction))
       | skip))
  exact ⟨⟨(by first | exact True.intro | (simp only [vb, lb]; omega) | (simp [vb] <;> omega)), rfl⟩, [], by simp⟩
set_option maxHeartbeats 4000000 in
theorem possible_ok (s : Sched) (x : Step) (hm : Mild s) (hz : Sizes x) : PureOK ctx 80 [schedP s, stepP x] (.bool (possible s x)) := by
  have hf : Sizes (fieldsOf x) := by
    have := hz.q; have := hz.s; have := hz.t
    unfold fieldsOf zeroStep
    dsimp only
    refine ⟨?_, ?_, ?_⟩ <;> (repeat' split) <;> simp <;> assumption
  have hfd := fields_ok x
  have hsm := sameStep_ok x (fieldsOf x) hz hf
  have hq := containsFQ_ok 101 [.ptr 2 0 0] (posM s x) (fun q => !queryOk q) x.queries hz.q rfl rfl fun q => possible1_ok s x q
  have ha1 := all_ok x.survive 0 64 hz.s
  have ha2 := all_ok x.voters 0 (s.replicas - 1) hz.t
  have hm1 := hm.r1; have hm2 := hm.r2; have hm3 := hm.s1; have hm4 := hm.s2
  have hz1 := hz.q; have hz2 := hz.s; have hz3 := hz.t
  generalize hr : possible s x = r
  unfold possible at hr
  generalize fieldsOf x = y at *
  generalize sameStep x y = b at *
  have hw := words_ok
  unfold stepP stepC at hsm hfd
  refine pure_body' (C := ctx) (Fn.of fn80 rfl) rfl ?_
  unfold c80
  repeat' (first
    | ((with_reducible show VCs _); first | exact True.intro | (simp only [vb, lb]; omega) | (simp only [vb, lb, hw, between_ok, hfd, hsm, hq, ha1, ha2]; and_intros <;> first | omega | (simp <;> omega)) | (simp [vb, hw, between_ok, hfd, hsm, hq, ha1, ha2] <;> omega))
    | ((with_reducible show All _); first | exact True.intro | ((try dsimp only [go_sem]); first | (simp [vb, hw, between_ok, hfd, hsm, hq, ha1, ha2] <;> omega) | (simp only [vb, and_true, true_implies]; (repeat' (first | (with_reducible assumption) | (with_reducible apply And.intro) | intro _ | ((fail_if_success (with_reducible show (_ : Int) ≤ _)); assumption))) <;> first | omega | rfl | (simp only [ab, hw, between_ok, hfd, hsm, hq, ha1, ha2]; done) | (simp [Nat.mul_one, hw, between_ok, hfd, hsm, hq, ha1, ha2] <;> omega) | (simp_all; done))))
    | exact (rfl : some _ = _)
    | (fail_if_success refine awL ?_
       refine evTH [(64, fun _ => some (.tup [wordsP kindWords, wordsP queryWords])), (100, fun _ => some (stepP y)), (58, fun _ => some (.bool b)), (69, fun l => match l with | [.int _ a, .int _ b, .int _ c] => some (.bool (between a b c)) | _ => none)] [(70, { val := some (.pv (.bool (x.queries.any fun q => !queryOk q))), ro := true }), (103, { val := some (.pv (.bool (allIn x.survive 0 64))) }), (140, { val := some (.pv (.bool (allIn x.voters 0 (s.replicas - 1)))) })] ?_
       repeat1' dsimp only [c80, schedP, stepP, stepC, kindWords, queryWords, wordsP, go_sem]
       first
       | refine aw4 ?_ ?_ rfl ?_
       | apply aw3
       | apply aw2
       | (refine awB (fun hc => ?_) fun hc => ?_ <;> first | (cases hc; done) | (exfalso; first | (simp at hc <;> omega) | (simp [hw, between_ok, hfd, hsm, hq, ha1, ha2] at hc; done)) | (try simp only [bn] at hc; try contradiction))
       | skip))
  all_goals clear hq ha1 hfd hsm hw hf hm
  · rw [← hr, show (between x.kind 0 6 && b && between x.replica 0 (s.replicas - 1)) = false by clear hr; simp at hc; revert hc; cases between x.kind 0 6 <;> cases between x.replica 0 (s.replicas - 1) <;> cases b <;> simp, Bool.false_and]
  all_goals
    have h3 : (between x.kind 0 6 && b && between x.replica 0 (s.replicas - 1)) = true := by clear hr ha2; simp_all
    rw [h3, Bool.true_and] at hr
    rw [← hr]
    clear hr h3
  iterate 5
    · refine congrArg some (congrArg PV.bool ?_)
      clear ha2
      rw [Bool.eq_iff_iff]
      simp [Sch.kindOk, cond_and, any_not, *] <;> omega
  · refine aw_forJ x.voters.length (fun k => ascending (x.voters.take k) = true) (fun k => [(2, .ptr 0 0 0), (3, .ptr 1 0 0), (109, .pv (.int .i64 x.voters.length)), (110, .pv (.int .i64 k))]) (fun _ => vsM s x) rfl (by (repeat' (first | exact trivial | refine And.intro (by first | rfl | (simp [get, Nat.beq]; done) | (simp [get, Nat.beq]; omega) | (dsimp only [get]; congr 1 <;> first | rfl | omega | (simp; done) | (simp; omega))) ?_))) ⟨_, rfl⟩ (fun k => ⟨Nat.zero_le _, rfl, rfl⟩) fun k hk hP => ?_
    by_cases hlt : k < x.voters.length
    · have e2 := getD_ints x.voters k hlt
      by_cases h0 : 0 < k
      · obtain ⟨j, rfl⟩ : ∃ j, k = j + 1 := ⟨k - 1, by omega⟩
        have e1 := getD_ints x.voters j (by omega)
        have hs := asc_step x.voters j hlt
        have hno := asc_take x.voters (j + 2)
        have ht2 : (((j + 1 : Nat) : Int) - 1).toNat = j := by omega
        generalize x.voters.getD j 0 = u at *
        generalize x.voters.getD (j + 1) 0 = w at *
        repeat' (first
          | ((with_reducible first | show VCs _ | show All _); (try dsimp only [go_sem]); first | (simp [vb, e1, e2, ht2, hlt] <;> omega) | (simp only [vb, and_true, true_implies]; (repeat' (first | (with_reducible assumption) | (with_reducible apply And.intro) | intro _ | ((fail_if_success (with_reducible show (_ : Int) ≤ _)); assumption))) <;> first | omega | (simp only [ab, e1, e2, ht2, hlt]; done) | (simp [e1, e2, ht2, hlt] <;> omega)))
          | exact (rfl : some _ = _)
          | (fail_if_success refine awL ?_
             refine evH [(121, { val := some (.pv (.int .i64 u)) }), (126, { val := some (.pv (.int .i64 w)) })] ?_
             repeat1' dsimp only [c80, vsM, stepC, intsP, go_sem]
             first
             | refine aw4 ?_ ?_ rfl ?_
             | apply aw3
             | apply aw2
             | (refine awB (fun hc => ?_) fun hc => ?_ <;> first | (cases hc; done) | (exfalso; simp [e1, e2, ht2, hlt] at hc <;> omega) | (try simp only [bn] at hc; try contradiction))
             | skip))
        · have hn : ascending x.voters = false := by
            rw [Bool.eq_false_iff]
            intro ha
            rw [hno ha, hP] at hs
            simp at hs
            omega
          simp [Sch.kindOk, *]
        · refine ⟨hlt, ?_, by (repeat' (first | exact trivial | refine And.intro (by first | rfl | (simp [get, Nat.beq]; done) | (simp [get, Nat.beq]; omega) | (dsimp only [get]; congr 1 <;> first | rfl | omega | (simp; done) | (simp; omega))) ?_)), _, rfl⟩
          rw [show j + 1 + 1 = j + 2 from rfl, hs, hP]
          simp
          omega
      · have hk0 : k = 0 := by omega
        subst hk0
        repeat' (first
          | ((with_reducible first | show VCs _ | show All _); simp [vb, hlt] <;> omega)
          | exact (rfl : some _ = _)
          | (fail_if_success refine awL ?_
             refine evH [(121, { val := some (.pv (.int .i64 0)) }), (126, { val := some (.pv (.int .i64 0)) })] ?_
             repeat1' dsimp only [c80, vsM, stepC, intsP, go_sem]
             first
             | refine aw4 ?_ ?_ rfl ?_
             | apply aw3
             | apply aw2
             | (refine awB (fun hc => ?_) fun hc => ?_ <;> first | (cases hc; done) | (exfalso; simp [hlt] at hc <;> omega) | (try simp only [bn] at hc; try contradiction))
             | skip))
        exact ⟨hlt, by cases x.voters <;> simp [ascending], by (repeat' (first | exact trivial | refine And.intro (by first | rfl | (simp [get, Nat.beq]; done) | (simp [get, Nat.beq]; omega) | (dsimp only [get]; congr 1 <;> first | rfl | omega | (simp; done) | (simp; omega))) ?_)), _, rfl⟩
    · rw [List.take_of_length_le (by omega)] at hP
      unfold intsP at ha2
      repeat' (first
        | ((with_reducible first | show VCs _ | show All _); simp [vb, ha2] <;> omega)
        | exact (rfl : some _ = _)
        | (fail_if_success refine awL ?_
           refine evT [(70, fun _ => some (.bool (allIn x.voters 0 (s.replicas - 1))))] ?_
           repeat1' dsimp only [c80, vsM, stepC, intsP, go_sem]
           first
           | refine aw4 ?_ ?_ rfl ?_
           | apply aw3
           | apply aw2
           | (refine awB (fun hc => ?_) fun hc => ?_ <;> first | (cases hc; done) | (exfalso; simp [ha2] at hc <;> omega) | (try simp only [bn] at hc; try contradiction))
           | skip))
      refine congrArg some (congrArg PV.bool ?_)
      rw [Bool.eq_iff_iff]
      simp [Sch.kindOk, cond_and, *]
  · simp [Sch.kindOk, *]
end
section
open Sch
def c42 : ACode := (⟨_, by conv => (lhs; reduce; try simp only [lt1, Int.cast_ofNat_Int, Int.reduceNegSucc, UInt8.reduceOfNat])⟩ : {x // codeOf Tryz.prog 42 (fun _ => false) = some x}).1
theorem fn42 : fnOf Tryz.prog 42 (fun _ => false) = some (c42, [.t 4], 40, true) := by kernel_rfl
def c12 : ACode := (⟨_, by conv => (lhs; reduce; try simp only [lt1, Int.cast_ofNat_Int, Int.reduceNegSucc, UInt8.reduceOfNat])⟩ : {x // codeOf Tryz.prog 12 (fun _ => false) = some x}).1
theorem fn12 : fnOf Tryz.prog 12 (fun _ => false) = some (c12, [.t 2], 39, true) := by kernel_rfl
def c57 : ACode := (⟨_, by conv => (lhs; reduce; try simp only [lt1, Int.cast_ofNat_Int, Int.reduceNegSucc, UInt8.reduceOfNat])⟩ : {x // codeOf Tryz.prog 57 (fun _ => false) = some x}).1
theorem fn57 : fnOf Tryz.prog 57 (fun _ => false) = some (c57, [.t 6], 32, true) := by kernel_rfl
def c17 : ACode := (⟨_, by conv => (lhs; reduce; try simp only [lt1, Int.cast_ofNat_Int, Int.reduceNegSucc, UInt8.reduceOfNat])⟩ : {x // codeOf Tryz.prog 17 (fun _ => false) = some x}).1
theorem fn17 : fnOf Tryz.prog 17 (fun _ => false) = some (c17, [.t 4], 52, true) := by kernel_rfl
def c44 : ACode := (⟨_, by conv => (lhs; reduce; try simp only [lt1, Int.cast_ofNat_Int, Int.reduceNegSucc, UInt8.reduceOfNat])⟩ : {x // codeOf Tryz.prog 44 (fun _ => false) = some x}).1
theorem fn44 : fnOf Tryz.prog 44 (fun _ => false) = some (c44, [.t 4], 21, true) := by kernel_rfl
theorem lastTick_at (s : Sched) (x : Step) (h : 0 < s.steps.length) : lastTickOk s x = decide ((s.steps.getD (s.steps.length - 1) zeroStep).tick ≤ x.tick) := by
 unfold lastTickOk
 rw [List.getLast?_eq_getElem?, List.getD, List.getElem?_eq_getElem (by omega)]
 rfl
set_option maxHeartbeats 4000000 in
theorem follows_ok (s : Sched) (x : Step) (hm : Mild s) (hz : Sizes x) (hn : s.steps.length ≤ 9223372036854775800) : PureOK ctx 42 [schedP s, stepP x] (.bool (follows s x)) := by
  have hp := possible_ok s x hm hz
  have ht1 := hm.t1; have ht2 := hm.t2
  have hfl := flatMap_length stepC_len s.steps
  generalize hr : follows s x = r
  unfold follows at hr
  generalize possible s x = b at *
  refine pure_body' (C := ctx) (Fn.of fn42 rfl) rfl ?_
  unfold c42
  by_cases h0 : s.steps.length = 0
  · rw [show lastTickOk s x = true by unfold lastTickOk; rw [List.eq_nil_of_length_eq_zero h0]; rfl] at hr
    repeat' (first
      | ((with_reducible show VCs _); first | exact True.intro | (simp only [vb, lb]; omega) | (simp only [vb, lb, between_ok, h0, hp]; and_intros <;> first | omega | (simp <;> omega)) | (simp [vb, between_ok, h0, hp] <;> omega))
      | ((with_reducible show All _); first | exact True.intro | ((try dsimp only [go_sem]); first | (simp [vb, between_ok, h0, hp] <;> omega) | (simp only [vb, and_true, true_implies]; (repeat' (first | (with_reducible assumption) | (with_reducible apply And.intro) | intro _ | ((fail_if_success (with_reducible show (_ : Int) ≤ _)); assumption))) <;> first | omega | rfl | (simp only [ab, between_ok, h0, hp]; done) | (simp [Nat.mul_one, between_ok, h0, hp] <;> omega) | (simp_all; done))))
      | exact (rfl : some _ = _)
      | (fail_if_success refine awL ?_
         refine evTH [(69, fun l => match l with | [.int _ a, .int _ b, .int _ c] => some (.bool (between a b c)) | _ => none), (80, fun _ => some (.bool b))] [(29, { val := some (.pv (.int .i64 0)) })] ?_
         repeat1' dsimp only [c42, schedP, stepP, stepC, stepsP, go_sem]
         first
         | refine aw4 ?_ ?_ rfl ?_
         | apply aw3
         | apply aw2
         | (refine awB (fun hc => ?_) fun hc => ?_ <;> first | (cases hc; done) | (exfalso; first | (simp at hc <;> omega) | (simp [between_ok, h0, hp] at hc; done)) | (try simp only [bn] at hc; try contradiction))
         | skip))
    rw [← hr, h0]
    simp only [cond_and]
    rfl
  · have e0 := fm_getD0 stepC_len s.steps (s.steps.length - 1) zeroStep (by omega) (by omega) default
    rw [lastTick_at s x (by omega)] at hr
    have ht : ((s.steps.length : Int) - 1).toNat = s.steps.length - 1 := by omega
    generalize s.steps.getD (s.steps.length - 1) zeroStep = y at *
    simp only [stepC, List.getD, List.getElem?_cons_zero, Option.getD_some] at e0
    repeat' (first
      | ((with_reducible show VCs _); first | exact True.intro | (simp only [vb, lb]; omega) | (simp only [vb, lb, between_ok, h0, hp, ht, e0, hfl]; and_intros <;> first | omega | (simp <;> omega)) | (simp [vb, between_ok, h0, hp, ht, e0, hfl] <;> omega))
      | ((with_reducible show All _); first | exact True.intro | ((try dsimp only [go_sem]); first | (simp [vb, between_ok, h0, hp, ht, e0, hfl] <;> omega) | (simp only [vb, and_true, true_implies]; (repeat' (first | (with_reducible assumption) | (with_reducible apply And.intro) | intro _ | ((fail_if_success (with_reducible show (_ : Int) ≤ _)); assumption))) <;> first | omega | rfl | (simp only [ab, between_ok, h0, hp, ht, e0, hfl]; done) | (simp [Nat.mul_one, between_ok, h0, hp, ht, e0, hfl] <;> omega) | (simp_all; done))))
      | exact (rfl : some _ = _)
      | (fail_if_success refine awL ?_
         refine evTH [(69, fun l => match l with | [.int _ a, .int _ b, .int _ c] => some (.bool (between a b c)) | _ => none), (80, fun _ => some (.bool b))] [(29, { val := some (.pv (.int .i64 y.tick)) })] ?_
         repeat1' dsimp only [c42, schedP, stepP, stepC, stepsP, go_sem]
         first
         | refine aw4 ?_ ?_ rfl ?_
         | apply aw3
         | apply aw2
         | (refine awB (fun hc => ?_) fun hc => ?_ <;> first | (cases hc; done) | (exfalso; first | (simp at hc <;> omega) | (simp [between_ok, h0, hp, ht, e0, hfl] at hc; done)) | (try simp only [bn] at hc; try contradiction))
         | skip))
    refine congrArg some (congrArg PV.bool ?_)
    rw [← hr, Bool.eq_iff_iff]
    simp [cond_and, cond_or, h0]
    omega
theorem stepsOk_at (s : Sched) (k : Nat) (hk : k < s.steps.length) : stepsOk s (s.steps.take k) (s.steps.drop k) = (follows { s with steps := s.steps.take k } (s.steps.getD k zeroStep) && stepsOk s (s.steps.take (k + 1)) (s.steps.drop (k + 1))) := by
 rw [List.drop_eq_getElem_cons hk, stepsOk, take_succ_getD s.steps k zeroStep hk, List.getD, List.getElem?_eq_getElem hk]
 rfl
def vSteps (s : Sched) : Nat → PV
 | 0 => .sl s.steps.length (s.steps.flatMap stepC)
 | k + 1 => .sl k ((s.steps.take k).flatMap stepC)
def schX (s : Sched) (p : PV) : Blk := ⟨[.pv (.int .i64 s.replicas), .pv (.int .i64 s.sessions), .pv (.int .i64 s.sectors), .pv (.int .i64 s.ticks), .pv (intsP s.state), .pv (fatesP s.fates), .pv p], 0, 7, 27, false⟩
theorem steps_take : ∀ (l : List Step) (k : Nat), (l.flatMap stepC).take (k * 10) = (l.take k).flatMap stepC
 | [], k => by simp
 | x :: r, 0 => by simp
 | x :: r, k + 1 => by
  rw [List.flatMap_cons, show (k + 1) * 10 = (stepC x).length + k * 10 by rw [stepC_len]; omega, List.take_append, Nat.add_sub_cancel_left, steps_take r k, List.take_of_length_le (by omega)]
  rfl
set_option maxHeartbeats 4000000 in
theorem Valid_ok (s : Sched) (hm1 : s.state.length ≤ 9223372036854775800) (hm2 : s.fates.length ≤ 9223372036854775800) (hm3 : s.steps.length ≤ 9223372036854775800) (hz : ∀ k, Sizes (s.steps.getD k zeroStep)) : PureOK ctx 12 [schedP s] (.bool (Sch.valid s)) := by
  have hh := head_ok s hm1
  have hf := containsFF_ok 40 (fun x => !fateOk x) s.fates hm2 valid1_ok
  rw [show (s.fates.any fun x => !fateOk x) = !s.fates.all fateOk by rw [← any_not, Bool.not_not]] at hf
  have hm : head s = true → Mild s := by
    intro h
    simp [head, between] at h
    exact ⟨by omega, by omega, by omega, by omega, by omega, by omega⟩
  generalize hr : Sch.valid s = r
  unfold Sch.valid at hr
  generalize head s = b at *
  generalize s.fates.all fateOk = c at *
  refine pure_body' (C := ctx) (Fn.of fn12 rfl) rfl ?_
  unfold c12
  repeat' (first
    | ((with_reducible show VCs _); first | exact True.intro | (simp only [vb, lb]; omega) | (simp only [vb, lb, hh, hf]; and_intros <;> first | omega | (simp <;> omega)) | (simp [vb, hh, hf] <;> omega))
    | ((with_reducible show All _); first | exact True.intro | ((try dsimp only [go_sem]); first | (simp [vb, hh, hf] <;> omega) | (simp only [vb, and_true, true_implies]; (repeat' (first | (with_reducible assumption) | (with_reducible apply And.intro) | intro _ | ((fail_if_success (with_reducible show (_ : Int) ≤ _)); assumption))) <;> first | omega | rfl | (simp only [ab, hh, hf]; done) | (simp [Nat.mul_one, hh, hf] <;> omega) | (simp_all; done))))
    | exact (rfl : some _ = _)
    | (fail_if_success refine awL ?_
       refine evT [(38, fun _ => some (.bool b)), (39, fun _ => some (.bool (!c)))] ?_
       repeat1' dsimp only [c12, schedP, fatesP, stepsP, go_sem]
       first
       | refine aw4 ?_ ?_ rfl ?_
       | apply aw3
       | apply aw2
       | (refine awB (fun hc => ?_) fun hc => ?_ <;> first | (cases hc; done) | (exfalso; first | (simp at hc <;> omega) | (simp [hh, hf] at hc; done)) | (try simp only [bn] at hc; try contradiction))
       | skip))
  · rw [← hr]
    have : (b && decide (s.fates.length ≤ 256) && c) = false := by
      rcases hc with (hc | hc) | hc
      · simp [hc]
      · rw [show decide (s.fates.length ≤ 256) = false by simp; omega]
        simp
      · simp [hc]
    rw [this, Bool.false_and]
  obtain ⟨⟨hb, hc1⟩, hc2⟩ := hc
  have hm := hm hb
  rw [hb, hc2, show decide (s.fates.length ≤ 256) = true by simp; omega] at hr
  simp only [Bool.and_self, Bool.true_and] at hr
  refine aw_forJ s.steps.length (fun k => stepsOk s (s.steps.take k) (s.steps.drop k) = r) (fun k => [(1, .ptr 0 0 0), (3, .ptr 1 0 0), (22, .pv (.sl s.steps.length (s.steps.flatMap stepC))), (23, .pv (.int .i64 s.steps.length)), (24, .pv (.int .i64 k))]) (fun k => [schX s (.sl s.steps.length (s.steps.flatMap stepC)), schX s (vSteps s k)]) (by simpa using hr) (by (repeat' (first | exact trivial | refine And.intro (by first | rfl | (simp [get, Nat.beq]; done) | (simp [get, Nat.beq]; omega) | (dsimp only [get]; congr 1 <;> first | rfl | omega | (simp; done) | (simp; omega))) ?_))) ⟨[], rfl⟩ (fun k => ⟨Nat.zero_le _, rfl, rfl⟩) fun k hk hP => ?_
  by_cases hlt : k < s.steps.length
  · have e := fm_take stepC_len s.steps k zeroStep hlt
    have hfl := flatMap_length stepC_len s.steps
    have ht := steps_take s.steps k
    have hfw := follows_ok { s with steps := s.steps.take k } (s.steps.getD k zeroStep) ⟨hm.r1, hm.r2, hm.s1, hm.s2, hm.t1, hm.t2⟩ (hz k) (by simp; omega)
    rw [schedP, stepsP, List.length_take, Nat.min_eq_left hk] at hfw
    rw [stepsOk_at s k hlt] at hP
    generalize s.steps.getD k zeroStep = x at *
    generalize follows { s with steps := s.steps.take k } x = q at *
    repeat' (first
      | ((with_reducible first | show VCs _ | show All _); (try dsimp only [go_sem]); first | (simp [vb, e, ht, hfw, hlt, hfl, stepC] <;> omega) | (simp only [vb, and_true, true_implies]; (repeat' (first | (with_reducible assumption) | (with_reducible apply And.intro) | intro _ | ((fail_if_success (with_reducible show (_ : Int) ≤ _)); assumption))) <;> first | omega | (simp only [ab, e, ht, hfw, hlt, hfl, stepC]; done) | (simp [e, ht, hfw, hlt, hfl, stepC] <;> omega)))
      | exact (rfl : some _ = _)
      | (fail_if_success refine awL ?_
         refine evTH [(42, fun _ => some (.bool q))] [(28, { val := some (.pv (stepP x)) }), (32, { val := some (.pv (.sl k ((s.steps.take k).flatMap stepC))) })] ?_
         repeat1' dsimp only [c12, schX, stepP, stepC, go_sem]
         first
         | refine aw4 ?_ ?_ rfl ?_
         | apply aw3
         | apply aw2
         | (refine awB (fun hc => ?_) fun hc => ?_ <;> first | (cases hc; done) | (exfalso; simp [e, ht, hfw, hlt, hfl, stepC] at hc <;> omega) | (try simp only [bn] at hc; try contradiction))
         | skip))
    · rw [← hP, hc, Bool.false_and]
    · rw [hc, Bool.true_and] at hP
      exact ⟨hlt, hP, by (repeat' (first | exact trivial | refine And.intro (by first | rfl | (simp [get, Nat.beq]; done) | (simp [get, Nat.beq]; omega) | (dsimp only [get]; congr 1 <;> first | rfl | omega | (simp; done) | (simp; omega))) ?_)), _, rfl⟩
  · have hkl : k = s.steps.length := by omega
    subst hkl
    repeat' (first
      | ((with_reducible first | show VCs _ | show All _); simp [vb] <;> omega)
      | exact (rfl : some _ = _)
      | (fail_if_success refine awL ?_
         refine evA ?_
         repeat1' dsimp only [c12, schX, go_sem]
         first
         | refine aw4 ?_ ?_ rfl ?_
         | apply aw3
         | apply aw2
         | (refine awB (fun hc => ?_) fun hc => ?_ <;> first | (cases hc; done) | (exfalso; simp at hc <;> omega) | (try simp only [bn] at hc; try contradiction))
         | skip))
    rw [← hP]
    simp [stepsOk]
theorem equalS_ok (a b : List Step) (ha : a.length ≤ 9223372036854775800) (hb : b.length ≤ 9223372036854775800) (hz : ∀ k, Sizes (a.getD k zeroStep)) (hz2 : ∀ k, Sizes (b.getD k zeroStep)) :
    PureOK ctx 57 [stepsP a, stepsP b, .val (.func (.func 58) #[] #[])] (.bool (decide (a = b))) := by
  generalize hr : decide (a = b) = r
  have f1 := flatMap_length stepC_len a
  have f2 := flatMap_length stepC_len b
  refine pure_body' (C := ctx) (Fn.of fn57 rfl) rfl ?_
  unfold c57
  repeat' (first
    | ((with_reducible first | show VCs _ | show All _); simp [vb] <;> omega)
    | exact (rfl : some _ = _)
    | (fail_if_success refine awL ?_
       refine evA ?_
       repeat1' dsimp only [c57, stepsP, go_sem]
       first
       | refine aw4 ?_ ?_ rfl ?_
       | apply aw3
       | apply aw2
       | (refine awB (fun hc => ?_) fun hc => ?_ <;> first | (cases hc; done) | (exfalso; simp at hc <;> omega) | (try simp only [bn] at hc; try contradiction))
       | skip))
  · rw [← hr]
    have : a ≠ b := by rintro rfl; exact hc rfl
    simp [this]
  have hn : a.length = b.length := by omega
  refine aw_forJ a.length (fun k => a.take k = b.take k) (fun k => [(17, .pv (.int .i64 k)), (16, .pv (.int .i64 a.length)), (15, .pv (stepsP a)), (1, .pv (stepsP b)), (2, .pv (.val (.func (.func 58) #[] #[])))]) (fun _ => []) rfl (by (repeat' (first | exact trivial | refine And.intro (by first | rfl | (simp [get, Nat.beq]; done) | (simp [get, Nat.beq]; omega) | (dsimp only [get]; congr 1 <;> first | rfl | omega | (simp; done) | (simp; omega))) ?_))) ⟨[], rfl⟩ (fun k => ⟨Nat.zero_le _, rfl, rfl⟩) fun k hk hP => ?_
  by_cases hlt : k < a.length
  · have s1 := take_succ_getD a k zeroStep hlt
    have s2 := take_succ_getD b k zeroStep (by omega)
    have hne : a.getD k zeroStep ≠ b.getD k zeroStep → a ≠ b := fun h1 h2 => h1 (by rw [h2])
    have e1 := fm_take stepC_len a k zeroStep hlt
    have e2 := fm_take stepC_len b k zeroStep (by omega)
    have hs := sameStep_ok (a.getD k zeroStep) (b.getD k zeroStep) (hz k) (hz2 k)
    have hi := sameStep_iff (a.getD k zeroStep) (b.getD k zeroStep)
    generalize a.getD k zeroStep = x at *
    generalize b.getD k zeroStep = y at *
    generalize sameStep x y = q at *
    repeat' (first
      | ((with_reducible first | show VCs _ | show All _); (try dsimp only [go_sem]); first | (simp [vb, e1, e2, f1, f2, hlt, hn, hs, stepC] <;> omega) | (simp only [vb, and_true, true_implies]; (repeat' (first | (with_reducible assumption) | (with_reducible apply And.intro) | intro _ | ((fail_if_success (with_reducible show (_ : Int) ≤ _)); assumption))) <;> first | omega | (simp only [ab, e1, e2, f1, f2, hlt, hn, hs, stepC]; done) | (simp [e1, e2, f1, f2, hlt, hn, hs, stepC] <;> omega)))
      | exact (rfl : some _ = _)
      | (fail_if_success refine awL ?_
         refine evTH [(58, fun _ => some (.bool q))] [(21, { val := some (.pv (stepP x)) }), (25, { val := some (.pv (stepP y)) })] ?_
         repeat1' dsimp only [c57, stepsP, stepP, stepC, go_sem]
         first
         | refine aw4 ?_ ?_ rfl ?_
         | apply aw3
         | apply aw2
         | (refine awB (fun hc => ?_) fun hc => ?_ <;> first | (cases hc; done) | (exfalso; simp [e1, e2, f1, f2, hlt, hn, hs, stepC] at hc <;> omega) | (try simp only [bn] at hc; try contradiction))
         | skip))
    · rw [← hr]
      have := hne fun h => by rw [hi.mpr h] at hc; cases hc
      simp [this]
    · refine ⟨hlt, ?_, by (repeat' (first | exact trivial | refine And.intro (by first | rfl | (simp [get, Nat.beq]; done) | (simp [get, Nat.beq]; omega) | (dsimp only [get]; congr 1 <;> first | rfl | omega | (simp; done) | (simp; omega))) ?_)), _, rfl⟩
      rw [s1, s2, hP, hi.mp hc]
  · have hk2 : k = a.length := by omega
    subst hk2
    rw [List.take_length, hn, List.take_length] at hP
    repeat' (first
      | ((with_reducible first | show VCs _ | show All _); simp [vb] <;> omega)
      | exact (rfl : some _ = _)
      | (fail_if_success refine awL ?_
         refine evA ?_
         repeat1' dsimp only [c57, go_sem]
         first
         | refine aw4 ?_ ?_ rfl ?_
         | apply aw3
         | apply aw2
         | (refine awB (fun hc => ?_) fun hc => ?_ <;> first | (cases hc; done) | (exfalso; simp at hc <;> omega) | (try simp only [bn] at hc; try contradiction))
         | skip))
    rw [← hr]
    simp [hP]
set_option maxHeartbeats 4000000 in
theorem Equal_ok (x y : Sched) (fx : Fits x) (fy : Fits y) : PureOK ctx 17 [schedP x, schedP y] (.bool (sameSched x y)) := by
  have h1 := equalI_ok x.state y.state fx.a fy.a
  have h2 := equalF_ok x.fates y.fates fx.f fy.f
  have h3 := equalS_ok x.steps y.steps fx.p fy.p fx.z fy.z
  generalize hr : sameSched x y = r
  unfold sameSched at hr
  generalize decide (x.state = y.state) = q1 at *
  generalize decide (x.fates = y.fates) = q2 at *
  generalize decide (x.steps = y.steps) = q3 at *
  refine pure_body' (C := ctx) (Fn.of fn17 rfl) rfl ?_
  unfold c17
  repeat' (first
    | ((with_reducible first | show VCs _ | show All _); simp [vb, h1, h2, h3] <;> omega)
    | exact (rfl : some _ = _)
    | (fail_if_success refine awL ?_
       refine evH [(36, { val := some (.pv (.bool q1)) }), (43, { val := some (.pv (.bool q2)) }), (50, { val := some (.pv (.bool q3)) })] ?_
       repeat1' dsimp only [c17, schedP, go_sem]
       first
       | refine aw4 ?_ ?_ rfl ?_
       | apply aw3
       | apply aw2
       | (refine awB (fun hc => ?_) fun hc => ?_ <;> first | (cases hc; done) | (exfalso; simp [h1, h2, h3] at hc <;> omega) | (try simp only [bn] at hc; try contradiction))
       | skip))
  rw [← hr]
  simp only [cond_and]
  rfl
theorem decDigits_len : ∀ (k u : Nat), u < 10 ^ (k + 1) → (Lib.decDigits u).length ≤ k + 1
 | 0, u, h => by
  rw [Lib.decDigits, dif_pos (by omega)]; simp
 | k + 1, u, h => by
  rw [Lib.decDigits]
  split
  ·simp
  ·rw [List.length_append]
   have := decDigits_len k (u / 10) (by rw [Nat.pow_succ] at h; omega)
   simp; omega
theorem itoa_len {n : Int} (h : i64 n) : (Lib.itoa n).length ≤ 20 := by
 unfold i64 at h
 unfold Lib.itoa
 split
 ·have := decDigits_len 18 n.natAbs (by omega)
  simp; omega
 ·have := decDigits_len 18 n.toNat (by omega)
  omega
theorem lineTo_len : ∀ (ns : List Int) (first : List UInt8), (∀ k, i64 (ns.getD k 0)) → (lineTo first ns).length ≤ first.length + 21 * ns.length
 | [], first, _ => by simp [lineTo]
 | n :: r, first, h => by
  have h1 := itoa_len (h 0)
  have h2 := lineTo_len r (first ++ 32 :: Lib.itoa n) fun k => by simpa using h (k + 1)
  simp [lineTo] at h1 h2 ⊢
  omega
theorem i64_take {ns : List Int} (h : ∀ k, i64 (ns.getD k 0)) (m k : Nat) : i64 ((ns.take m).getD k 0) := by
 have := h k
 rw [List.getD] at this ⊢
 rw [List.getElem?_take]
 split
 ·exact this
 ·exact ⟨by decide, by decide⟩
theorem line_ok (first : List UInt8) (ns : List Int) (hm : ns.length ≤ 1000000) (hb : ∀ k, i64 (ns.getD k 0)) (hf : first.length ≤ 1000000000000) : PureOK ctx 44 [.str first, intsP ns] (.str (lineTo first ns ++ [10])) := by
  refine pure_body' (C := ctx) (Fn.of fn44 rfl) rfl ?_
  unfold c44
  repeat' (first
    | ((with_reducible first | show VCs _ | show All _); simp [vb] <;> omega)
    | exact (rfl : some _ = _)
    | (fail_if_success refine awL ?_
       refine evA ?_
       repeat1' dsimp only [c44, intsP, go_sem]
       first
       | refine aw4 ?_ ?_ rfl ?_
       | apply aw3
       | apply aw2
       | (refine awB (fun hc => ?_) fun hc => ?_ <;> first | (cases hc; done) | (exfalso; simp at hc <;> omega) | (try simp only [bn] at hc; try contradiction))
       | skip))
  refine aw_forP ns.length (fun _ => True) (fun k => [(0, .pv (.str (lineTo first (ns.take k)))), (7, .pv (intsP ns)), (8, .pv (.int .i64 ns.length)), (9, .pv (.int .i64 k))]) (fun _ => []) trivial (by (repeat' (first | exact trivial | refine And.intro (by first | rfl | (simp [get, Nat.beq]; done) | (simp [get, Nat.beq]; omega) | (dsimp only [get]; congr 1 <;> first | rfl | omega | (simp; done) | (simp; omega))) ?_))) rfl fun k hk _ => ?_
  by_cases hlt : k < ns.length
  · have e := getD_ints ns k hlt
    have hs := lineTo_take first ns k hlt
    have hi := itoa_ok (ns.getD k 0) (hb k).1 (hb k).2
    have hl1 := itoa_len (hb k)
    have hl2 := lineTo_len (ns.take k) first (i64_take hb k)
    rw [List.length_take, Nat.min_eq_left hk] at hl2
    generalize ns.getD k 0 = n at *
    repeat' (first
      | ((with_reducible first | show VCs _ | show All _); (try dsimp only [go_sem]); first | (simp [vb, e, hlt, hi, hs] <;> omega) | (simp only [vb, and_true, true_implies]; (repeat' (first | (with_reducible assumption) | (with_reducible apply And.intro) | intro _ | ((fail_if_success (with_reducible show (_ : Int) ≤ _)); assumption))) <;> first | omega | (simp only [ab, e, hlt, hi, hs]; done) | (simp [e, hlt, hi, hs] <;> omega)))
      | exact (rfl : some _ = _)
      | (fail_if_success refine awL ?_
         refine evTH [(82, fun _ => some (.str (Lib.itoa n)))] [(12, { val := some (.pv (.int .i64 n)) })] ?_
         repeat1' dsimp only [c44, intsP, go_sem]
         first
         | refine aw4 ?_ ?_ rfl ?_
         | apply aw3
         | apply aw2
         | (refine awB (fun hc => ?_) fun hc => ?_ <;> first | (cases hc; done) | (exfalso; simp [e, hlt, hi, hs] at hc <;> omega) | (try simp only [bn] at hc; try contradiction))
         | skip))
    refine ⟨hlt, trivial, ?_, rfl⟩
    rw [hs]
    (repeat' (first | exact trivial | refine And.intro (by first | rfl | (simp [get, Nat.beq]; done) | (simp [get, Nat.beq]; omega) | (dsimp only [get]; congr 1 <;> first | rfl | omega | (simp; done) | (simp; omega))) ?_))
  · have hkl : k = ns.length := by omega
    subst hkl
    have hl2 := lineTo_len ns first hb
    rw [List.take_length]
    repeat' (first
      | ((with_reducible first | show VCs _ | show All _); simp [vb] <;> omega)
      | exact (rfl : some _ = _)
      | (fail_if_success refine awL ?_
         refine evA ?_
         repeat1' dsimp only [c44, go_sem]
         first
         | refine aw4 ?_ ?_ rfl ?_
         | apply aw3
         | apply aw2
         | (refine awB (fun hc => ?_) fun hc => ?_ <;> first | (cases hc; done) | (exfalso; simp at hc <;> omega) | (try simp only [bn] at hc; try contradiction))
         | skip))
end
section
open Sch
def c24 : ACode := (⟨_, by conv => (lhs; reduce; try simp only [lt1, Int.cast_ofNat_Int, Int.reduceNegSucc, UInt8.reduceOfNat])⟩ : {x // codeOf Tryz.prog 24 (fun _ => false) = some x}).1
theorem fn24 : fnOf Tryz.prog 24 (fun _ => false) = some (c24, [.t 4], 93, true) := by kernel_rfl
def readerB (s : Sched) (next : Int) (a f p : AV) : Blk := ⟨[.pv (.int .i64 s.replicas), .pv (.int .i64 s.sessions), .pv (.int .i64 s.sectors), .pv (.int .i64 s.ticks), a, f, p, .pv (.int .i64 next)], 0, 8, 58, false⟩
def fatesA : List Fate → AV
 | [] => .pv .nilsl
 | _ :: r => .ref 3 r.length 0 (r.length + 1)
def fatesB : List Fate → AM
 | [] => []
 | x :: r => [⟨((x :: r).flatMap fateC).map .pv, r.length, 3, 53, false⟩]
def stepsA (b : Nat) : List Step → AV
 | [] => .pv .nilsl
 | _ :: r => .ref b r.length 0 (r.length + 1)
def stepsB : List Step → AM
 | [] => []
 | x :: r => [⟨((x :: r).flatMap stepC).map .pv, r.length, 10, 41, false⟩]
theorem fatesA_nil : fatesA [] = .pv .nilsl := rfl
theorem fatesA_cons (x : Fate) (r : List Fate) : fatesA (x :: r) = .ref 3 r.length 0 (r.length + 1) := rfl
theorem fatesB_nil : fatesB [] = [] := rfl
theorem fatesB_cons (x : Fate) (r : List Fate) : fatesB (x :: r) = [⟨((x :: r).flatMap fateC).map .pv, r.length, 3, 53, false⟩] := rfl
theorem stepsA_nil (b : Nat) : stepsA b [] = .pv .nilsl := rfl
theorem stepsA_cons (b : Nat) (x : Step) (r : List Step) : stepsA b (x :: r) = .ref b r.length 0 (r.length + 1) := rfl
theorem stepsB_nil : stepsB [] = [] := rfl
theorem stepsB_cons (x : Step) (r : List Step) : stepsB (x :: r) = [⟨((x :: r).flatMap stepC).map .pv, r.length, 10, 41, false⟩] := rfl
def resB : Blk := ⟨[.pv (.int .i64 0), .pv (.int .i64 0), .pv (.int .i64 0), .pv (.int .i64 0), .pv .nilsl, .pv .nilsl, .pv .nilsl], 0, 7, 27, false⟩
def mapB : Blk := ⟨[.pv (.str [102, 97, 116, 101]), .bm 24 [.ptr 1 0 0], .pv (.str [97, 116]), .bm 25 [.ptr 1 0 0]], 0, 0, 0, false⟩
def rdM (s : Sched) (st : PV) (next : Int) : AM := resB :: readerB s next (.pv st) (fatesA s.fates) (stepsA (3 + (fatesB s.fates).length) s.steps) :: mapB :: (fatesB s.fates ++ stepsB s.steps)
def dropW : List UInt8 := [100, 114, 111, 112]
def isDrop (l : List (List UInt8)) : Bool := l.length == 2 && l.getD 1 [] == dropW
def fateOf (l : List (List UInt8)) : Option Fate :=
 if isDrop l then some ⟨true, 0, 0⟩ else
 match numsOf l.tail with
 | some [d] => some ⟨false, d, 0⟩
 | some [d, a] => if a = 0 then none else some ⟨false, d, a⟩
 | _ => none
def fateTail : ACode := (⟨_, by conv => (lhs; reduce; try simp only [lt1, Int.cast_ofNat_Int, Int.reduceNegSucc, UInt8.reduceOfNat])⟩ : {x // c24.sub [1, 1, 1] = x}).1
theorem fate_tail (s : Sched) (st : PV) (next : Int) (f : Fate) (hn : s.fates.length ≤ 1000000) (hst : s.steps = []) (own : Nat → Bool) (μ' : AM)
  (hμ : μ' = rdM { s with fates := s.fates ++ [f] } st next) :
  Aw ctx own 93 (rdM s st next).length fateTail (RetRD [.t 4] (.pv (.bool (decide (s.fates.length + 1 ≤ 256) && fateOk f))) μ') [(0, .ptr 1 0 0), (5, .ptr (rdM s st next).length 0 0)]
   (rdM s st next ++ [⟨(fateC f).map .pv, 0, 3, 53, false⟩]) := by
 subst hμ
 obtain ⟨a, b, c, d, e, fs, ss⟩ := s
 simp only at hst hn
 subst hst
 have hv := valid_ok f
 unfold fateP at hv
 cases fs with
 | nil =>
  unfold fateTail rdM
  refine aw_seq (evC_aw (T := []) (H := []) ?_)
  dsimp only [c24, resB, mapB, readerB, fatesA_nil, fatesB_nil, stepsA_nil, stepsB_nil, fateC, go_sem]
  refine ⟨(by first | exact True.intro | (simp only [vb, lb]; omega) | (simp [vb] <;> omega)), (by first | exact True.intro | ((try dsimp only [go_sem]); first | (simp [vb] <;> omega) | (simp only [vb, and_true, true_implies]; (repeat' (first | (with_reducible assumption) | (with_reducible apply And.intro) | intro _ | ((fail_if_success (with_reducible show (_ : Int) ≤ _)); assumption))) <;> first | omega | rfl | (simp only [ab]; done) | (simp [Nat.mul_one] <;> omega) | (simp_all; done)))), ?_⟩
  refine aw_seq (evC_aw (T := []) (H := [(91, { val := some (.pv (.bool (fateOk f))) })]) ?_)
  dsimp only [c24, go_sem]
  refine ⟨(by first | exact True.intro | (simp only [vb, lb]; omega) | (simp [vb] <;> omega)), (by first | exact True.intro | ((try dsimp only [go_sem]); first | (simp [vb, hv] <;> omega) | (simp only [vb, and_true, true_implies]; (repeat' (first | (with_reducible assumption) | (with_reducible apply And.intro) | intro _ | ((fail_if_success (with_reducible show (_ : Int) ≤ _)); assumption))) <;> first | omega | rfl | (simp only [ab, hv]; done) | (simp [Nat.mul_one, hv] <;> omega) | (simp_all; done)))), ?_⟩
  refine aw_keep [0, 1, 2, 4] rfl ?_
  refine evC_aw (T := []) (H := []) ?_
  dsimp only [c24, go_sem]
  exact ⟨⟨trivial, by simp⟩, [], rfl⟩
 | cons x r =>
  simp only [List.length_cons] at hn
  unfold fateTail rdM
  refine aw_seq (evC_aw (T := []) (H := []) ?_)
  dsimp only [c24, resB, mapB, readerB, fatesA_cons, fatesB_cons, stepsA_nil, stepsB_nil, fateC, go_sem]
  refine ⟨(by first | exact True.intro | (simp only [vb, lb]; omega) | (simp only [vb, lb, flatMap_length fateC_len]; and_intros <;> first | omega | (simp <;> omega)) | (simp [vb, flatMap_length fateC_len] <;> omega)), (by first | exact True.intro | ((try dsimp only [go_sem]); first | (simp [vb] <;> omega) | (simp only [vb, and_true, true_implies]; (repeat' (first | (with_reducible assumption) | (with_reducible apply And.intro) | intro _ | ((fail_if_success (with_reducible show (_ : Int) ≤ _)); assumption))) <;> first | omega | rfl | (simp only [ab]; done) | (simp [Nat.mul_one] <;> omega) | (simp_all; done)))), ?_⟩
  refine aw_seq (evC_aw (T := []) (H := [(91, { val := some (.pv (.bool (fateOk f))) })]) ?_)
  dsimp only [c24, go_sem]
  refine ⟨(by first | exact True.intro | (simp only [vb, lb]; omega) | (simp [vb] <;> omega)), (by first | exact True.intro | ((try dsimp only [go_sem]); first | (simp [vb, hv] <;> omega) | (simp only [vb, and_true, true_implies]; (repeat' (first | (with_reducible assumption) | (with_reducible apply And.intro) | intro _ | ((fail_if_success (with_reducible show (_ : Int) ≤ _)); assumption))) <;> first | omega | rfl | (simp only [ab, hv]; done) | (simp [Nat.mul_one, hv] <;> omega) | (simp_all; done)))), ?_⟩
  refine evC_aw (T := []) (H := []) ?_
  dsimp only [c24, go_sem]
  refine ⟨⟨trivial, ?_⟩, [⟨(fateC f).map .pv, 0, 3, 53, false⟩], ?_⟩
  ·have : decide ((r.length : Int) + 1 + 1 ≤ 256) = decide (r.length ≤ 254) := decide_eq_decide.mpr (by omega)
   simp [this]
  ·simp [fatesA, fatesB, fateC]
theorem rdM_ok (s : Sched) (st : PV) (next : Int) : okMem (rdM s st next) (rdM s st next).length = true := by
 obtain ⟨a, b, c, d, e, fs, ss⟩ := s
 cases fs <;> cases ss <;> simp [okMem, rdM, resB, mapB, readerB, fatesA, fatesB, stepsA, stepsB, bnd, Nat.blt, fateC, stepC]
theorem rdM_len (s : Sched) (st : PV) (next : Int) : 3 ≤ (rdM s st next).length := by simp [rdM]
theorem fate_tail_late (s : Sched) (st : PV) (next : Int) (f : Fate) (hn : s.fates.length ≤ 1000000) (hst : s.steps ≠ []) :
  ∃ μ', (∃ tl, μ' = resB :: tl) ∧ okMem μ' μ'.length = true ∧ (rdM s st next).length ≤ μ'.length ∧ ∀ own, Aw ctx own 93 (rdM s st next).length fateTail (RetRD [.t 4] (.pv (.bool false)) μ') [(0, .ptr 1 0 0), (5, .ptr (rdM s st next).length 0 0)]
   (rdM s st next ++ [⟨(fateC f).map .pv, 0, 3, 53, false⟩]) := by
 obtain ⟨a, b, c, d, e, fs, ss⟩ := s
 simp only at hst hn
 cases ss with
 | nil => exact absurd rfl hst
 | cons y q =>
 have hv := valid_ok f
 unfold fateP at hv
 cases fs with
 | nil =>
  refine ⟨[resB, readerB ⟨a, b, c, d, e, [], y :: q⟩ next (.pv st) (.ref 4 0 0 1) (stepsA 3 (y :: q)), mapB, ⟨((y :: q).flatMap stepC).map .pv, q.length, 10, 41, false⟩, ⟨(fateC f).map .pv, 0, 3, 53, false⟩], ⟨_, rfl⟩, ?_, ?_, fun own => ?_⟩
  ·simp [okMem, resB, mapB, readerB, stepsA, bnd, Nat.blt]
  ·simp [rdM, fatesB, stepsB]
  unfold fateTail rdM
  refine aw_seq (evC_aw (T := []) (H := []) ?_)
  dsimp only [c24, resB, mapB, readerB, fatesA_nil, fatesB_nil, stepsA_cons, stepsB_cons, fateC, go_sem]
  refine ⟨(by first | exact True.intro | (simp only [vb, lb]; omega) | (simp [vb] <;> omega)), (by first | exact True.intro | ((try dsimp only [go_sem]); first | (simp [vb] <;> omega) | (simp only [vb, and_true, true_implies]; (repeat' (first | (with_reducible assumption) | (with_reducible apply And.intro) | intro _ | ((fail_if_success (with_reducible show (_ : Int) ≤ _)); assumption))) <;> first | omega | rfl | (simp only [ab]; done) | (simp [Nat.mul_one] <;> omega) | (simp_all; done)))), ?_⟩
  refine aw_seq (evC_aw (T := []) (H := [(80, { val := some (.pv (.bool false)) }), (91, { val := some (.pv (.bool (fateOk f))) })]) ?_)
  dsimp only [c24, go_sem]
  refine ⟨(by first | exact True.intro | (simp only [vb, lb]; omega) | (simp [vb] <;> omega)), (by first | exact True.intro | ((try dsimp only [go_sem]); first | (simp [vb, hv] <;> omega) | (simp only [vb, and_true, true_implies]; (repeat' (first | (with_reducible assumption) | (with_reducible apply And.intro) | intro _ | ((fail_if_success (with_reducible show (_ : Int) ≤ _)); assumption))) <;> first | omega | rfl | (simp only [ab, hv]; done) | (simp [Nat.mul_one, hv] <;> omega) | (simp_all; done)))), ?_⟩
  refine aw_keep [0, 1, 2, 3, 5] rfl ?_
  refine evC_aw (T := []) (H := []) ?_
  dsimp only [c24, go_sem]
  refine ⟨⟨trivial, rfl⟩, [], ?_⟩
  have : renV [0, 1, 2, 3, 5] 3 ∘ AV.pv = AV.pv := rfl
  simp [this]
 | cons x r =>
  simp only [List.length_cons] at hn
  refine ⟨[resB, readerB ⟨a, b, c, d, e, x :: r, y :: q⟩ next (.pv st) (.ref 3 (r.length + 1) 0 (r.length + 1 + 1)) (stepsA 4 (y :: q)), mapB, ⟨((x :: r).flatMap fateC ++ fateC f).map .pv, r.length + 1, 3, 53, false⟩, ⟨((y :: q).flatMap stepC).map .pv, q.length, 10, 41, false⟩], ⟨_, rfl⟩, ?_, ?_, fun own => ?_⟩
  ·simp [okMem, resB, mapB, readerB, stepsA, bnd, Nat.blt]
  ·simp [rdM, fatesB, stepsB]
  unfold fateTail rdM
  refine aw_seq (evC_aw (T := []) (H := []) ?_)
  dsimp only [c24, resB, mapB, readerB, fatesA_cons, fatesB_cons, stepsA_cons, stepsB_cons, fateC, go_sem]
  refine ⟨(by first | exact True.intro | (simp only [vb, lb]; omega) | (simp only [vb, lb, flatMap_length fateC_len]; and_intros <;> first | omega | (simp <;> omega)) | (simp [vb, flatMap_length fateC_len] <;> omega)), (by first | exact True.intro | ((try dsimp only [go_sem]); first | (simp [vb] <;> omega) | (simp only [vb, and_true, true_implies]; (repeat' (first | (with_reducible assumption) | (with_reducible apply And.intro) | intro _ | ((fail_if_success (with_reducible show (_ : Int) ≤ _)); assumption))) <;> first | omega | rfl | (simp only [ab]; done) | (simp [Nat.mul_one] <;> omega) | (simp_all; done)))), ?_⟩
  refine aw_seq (evC_aw (T := []) (H := [(80, { val := some (.pv (.bool false)) }), (91, { val := some (.pv (.bool (fateOk f))) })]) ?_)
  dsimp only [c24, go_sem]
  refine ⟨(by first | exact True.intro | (simp only [vb, lb]; omega) | (simp [vb] <;> omega)), (by first | exact True.intro | ((try dsimp only [go_sem]); first | (simp [vb, hv] <;> omega) | (simp only [vb, and_true, true_implies]; (repeat' (first | (with_reducible assumption) | (with_reducible apply And.intro) | intro _ | ((fail_if_success (with_reducible show (_ : Int) ≤ _)); assumption))) <;> first | omega | rfl | (simp only [ab, hv]; done) | (simp [Nat.mul_one, hv] <;> omega) | (simp_all; done)))), ?_⟩
  refine evC_aw (T := []) (H := []) ?_
  dsimp only [c24, go_sem]
  refine ⟨⟨trivial, rfl⟩, [⟨(fateC f).map .pv, 0, 3, 53, false⟩], ?_⟩
  simp [fateC]
theorem tail_ok (l : List (List UInt8)) (w : List UInt8) (hm : (w :: l).length ≤ 1000000) (hw : ∀ x ∈ w :: l, x.length ≤ 281474976710656) : PureOK ctx 63 [wordsP l] (match numsOf l with
      | some l => .tup [intsP l, .bool true]
      | none => .tup [.sl 0 [], .bool false]) := by
  have := (numbers_ok l (by simp at hm; omega) fun x hx => hw x (by simp [hx])).canon_res 2
  cases h : numsOf l with
  | none => rw [h] at this; exact this
  | some ns =>
    rw [h] at this
    cases ns with
    | nil => exact this
    | cons n r =>
      simp only [canon, numsP, List.map_cons, List.map_nil, List.map_map] at this
      simp only [intsP, List.length_cons, List.map_cons]
      exact this
theorem fate_ok (s : Sched) (st : PV) (next : Int) (w0 : List UInt8) (l : List (List UInt8)) (hm : (w0 :: l).length ≤ 1000000) (hw : ∀ x ∈ w0 :: l, x.length ≤ 281474976710656) (hn : s.fates.length ≤ 1000000)
  (r : Bool) (μ' : AM) (ho : okMem μ' μ'.length = true) (hl : (rdM s st next).length ≤ μ'.length) (hno : fateOf (w0 :: l) = none → r = false ∧ μ' = rdM s st next)
  (hyes : ∀ f, fateOf (w0 :: l) = some f → ∀ own, Aw ctx own 93 (rdM s st next).length fateTail (RetRD [.t 4] (.pv (.bool r)) μ') [(0, .ptr 1 0 0), (5, .ptr (rdM s st next).length 0 0)]
   (rdM s st next ++ [⟨(fateC f).map .pv, 0, 3, 53, false⟩])) :
  RefOK ctx 24 [.ptr 1 0 0, .pv (wordsP (w0 :: l))] (rdM s st next) (.pv (.bool r)) μ' := by
 have hT := tail_ok l w0 hm hw
 have e1 : (((l.length + 1 : Nat) : Int) - 1).toNat = l.length := by omega
 have e2 : (l.map PV.str).take l.length = l.map .str := List.take_of_length_le (by simp)
 unfold wordsP at hT
 generalize hμ : rdM s st next = μ at *
 refine ref_body' (C := ctx) (Fn.of fn24 rfl) rfl hl rfl ho ?_
 unfold c24
 refine aw_seq (evC_aw (T := []) (H := []) ?_)
 dsimp only [c24, wordsP, go_sem]
 refine ⟨(by first | exact True.intro | (simp only [vb, lb]; omega) | (simp [vb] <;> omega)), (by first | exact True.intro | ((try dsimp only [go_sem]); first | (simp [vb] <;> omega) | (simp only [vb, and_true, true_implies]; (repeat' (first | (with_reducible assumption) | (with_reducible apply And.intro) | intro _ | ((fail_if_success (with_reducible show (_ : Int) ≤ _)); assumption))) <;> first | omega | rfl | (simp only [ab]; done) | (simp [Nat.mul_one] <;> omega) | (simp_all; done)))), ?_⟩
 refine aw_seq (evC_aw (T := []) (H := [(10, { val := some (.pv (.bool (l.length == 1))) }), (14, { val := some (.pv (.str (l.getD 0 []))) }), (16, { val := some (.pv (.bool (isDrop (w0 :: l)))) })]) ?_)
 simp only [mem2_get, mem2_last, mem2_set0, mem2_set1, mem_last, mem_set, mem_len, go_sem]
 refine ⟨(by first | exact True.intro | (simp only [vb, lb]; omega) | (simp [vb] <;> omega)), ?_, ?_⟩
 ·match l with
  | [] => simp [All, VCs, isDrop, dropW]
  | [x] => simp [All, VCs, isDrop, dropW]
  | x :: y :: z => simp [All, VCs, isDrop, dropW]; omega
 have hfo : fateOf (w0 :: l) = if isDrop (w0 :: l) then some ⟨true, 0, 0⟩ else match numsOf l with
  | some [d] => some ⟨false, d, 0⟩
  | some [d, a] => if a = 0 then none else some ⟨false, d, a⟩
  | _ => none := rfl
 cases hD : isDrop (w0 :: l) with
 | true =>
  rw [hD] at hfo
  refine aw_seq (evC_aw (T := []) (H := []) ?_)
  simp only [mem2_get, mem2_last, mem2_set0, mem2_set1, mem_last, mem_set, mem_len, go_sem]
  refine ⟨(by first | exact True.intro | (simp only [vb, lb]; omega) | (simp [vb] <;> omega)), (by first | exact True.intro | ((try dsimp only [go_sem]); first | (simp [vb] <;> omega) | (simp only [vb, and_true, true_implies]; (repeat' (first | (with_reducible assumption) | (with_reducible apply And.intro) | intro _ | ((fail_if_success (with_reducible show (_ : Int) ≤ _)); assumption))) <;> first | omega | rfl | (simp only [ab]; done) | (simp [Nat.mul_one] <;> omega) | (simp_all; done)))), fun h => by simp at h, fun _ => ?_⟩
  exact aw_frame [(0, .ptr 1 0 0), (5, .ptr μ.length 0 0)] ⟨rfl, rfl, trivial⟩ (hyes _ hfo _)
 | false =>
  rw [hD] at hfo
  simp only [Bool.false_eq_true, if_false] at hfo
  cases hN : numsOf l with
  | none =>
   rw [hN] at hfo hT
   obtain ⟨rfl, rfl⟩ := hno hfo
   refine aw_seq (evC_aw (T := [(63, fun _ => some (.tup [.sl 0 [], .bool false]))]) (H := [(23, { val := some (.pv (.sl l.length (l.map .str))) }), (46, { val := some (.pv (.int .i64 0)) }), (49, { val := some (.pv (.bool true)) })]) ?_)
   simp only [c24, mem2_get, mem2_last, mem2_set0, mem2_set1, mem_last, mem_set, mem_len, go_sem]
   refine ⟨(by first | exact True.intro | (simp only [vb, lb]; omega) | (simp [vb] <;> omega)), (by first | exact True.intro | ((try dsimp only [go_sem]); first | (simp [vb] <;> omega) | (simp only [vb, and_true, true_implies]; (repeat' (first | (with_reducible assumption) | (with_reducible apply And.intro) | intro _ | ((fail_if_success (with_reducible show (_ : Int) ≤ _)); assumption))) <;> first | omega | rfl | (simp only [ab]; done) | (simp [Nat.mul_one] <;> omega) | (simp_all; done)))), fun _ => ⟨(by first | exact True.intro | (simp only [vb, lb]; omega) | (simp [vb] <;> omega)), ?_, (by first | exact True.intro | (simp only [vb, lb]; omega) | (simp [vb] <;> omega)), (by first | exact True.intro | ((try dsimp only [go_sem]); first | (simp [vb] <;> omega) | (simp only [vb, and_true, true_implies]; (repeat' (first | (with_reducible assumption) | (with_reducible apply And.intro) | intro _ | ((fail_if_success (with_reducible show (_ : Int) ≤ _)); assumption))) <;> first | omega | rfl | (simp only [ab]; done) | (simp [Nat.mul_one] <;> omega) | (simp_all; done)))), fun _ => ⟨(by first | exact True.intro | (simp only [vb, lb]; omega) | (simp [vb] <;> omega)), (by first | exact True.intro | ((try dsimp only [go_sem]); first | (simp [vb] <;> omega) | (simp only [vb, and_true, true_implies]; (repeat' (first | (with_reducible assumption) | (with_reducible apply And.intro) | intro _ | ((fail_if_success (with_reducible show (_ : Int) ≤ _)); assumption))) <;> first | omega | rfl | (simp only [ab]; done) | (simp [Nat.mul_one] <;> omega) | (simp_all; done)))), ?_⟩, fun h => by simp at h⟩, fun h => by simp at h⟩
   ·exact ⟨hT, by simp [e1, e2], trivial⟩
   ·exact ⟨⟨trivial, trivial⟩, _, rfl⟩
  | some ns =>
   rw [hN] at hfo hT
   simp only at hT
   replace hfo : fateOf (w0 :: l) = match ns with | [d] => some ⟨false, d, 0⟩ | [d, a] => if a = 0 then none else some ⟨false, d, a⟩ | _ => none := hfo.trans (by rcases ns with _ | ⟨d, _ | ⟨a, _ | _⟩⟩ <;> rfl)
   match ns with
   | [] =>
    obtain ⟨rfl, rfl⟩ := hno hfo
    refine aw_seq (evC_aw (T := [(63, fun _ => some (.tup [intsP [], .bool true]))]) (H := [(23, { val := some (.pv (.sl l.length (l.map .str))) }), (46, { val := some (.pv (.int .i64 0)) }), (49, { val := some (.pv (.bool true)) })]) ?_)
    simp only [c24, intsP, mem2_get, mem2_last, mem2_set0, mem2_set1, mem_last, mem_set, mem_len, go_sem]
    refine ⟨(by first | exact True.intro | (simp only [vb, lb]; omega) | (simp [vb] <;> omega)), (by first | exact True.intro | ((try dsimp only [go_sem]); first | (simp [vb] <;> omega) | (simp only [vb, and_true, true_implies]; (repeat' (first | (with_reducible assumption) | (with_reducible apply And.intro) | intro _ | ((fail_if_success (with_reducible show (_ : Int) ≤ _)); assumption))) <;> first | omega | rfl | (simp only [ab]; done) | (simp [Nat.mul_one] <;> omega) | (simp_all; done)))), fun _ => ⟨(by first | exact True.intro | (simp only [vb, lb]; omega) | (simp [vb] <;> omega)), ?_, (by first | exact True.intro | (simp only [vb, lb]; omega) | (simp [vb] <;> omega)), (by first | exact True.intro | ((try dsimp only [go_sem]); first | (simp [vb] <;> omega) | (simp only [vb, and_true, true_implies]; (repeat' (first | (with_reducible assumption) | (with_reducible apply And.intro) | intro _ | ((fail_if_success (with_reducible show (_ : Int) ≤ _)); assumption))) <;> first | omega | rfl | (simp only [ab]; done) | (simp [Nat.mul_one] <;> omega) | (simp_all; done)))), fun _ => ⟨(by first | exact True.intro | (simp only [vb, lb]; omega) | (simp [vb] <;> omega)), (by first | exact True.intro | ((try dsimp only [go_sem]); first | (simp [vb] <;> omega) | (simp only [vb, and_true, true_implies]; (repeat' (first | (with_reducible assumption) | (with_reducible apply And.intro) | intro _ | ((fail_if_success (with_reducible show (_ : Int) ≤ _)); assumption))) <;> first | omega | rfl | (simp only [ab]; done) | (simp [Nat.mul_one] <;> omega) | (simp_all; done)))), ?_⟩, fun h => by simp at h⟩, fun h => by simp at h⟩
    ·exact ⟨hT, by simp [e1, e2], trivial⟩
    ·exact ⟨⟨trivial, trivial⟩, _, rfl⟩
   | d :: a :: b :: r' =>
    obtain ⟨rfl, rfl⟩ := hno hfo
    refine aw_seq (evC_aw (T := [(63, fun _ => some (.tup [intsP (d :: a :: b :: r'), .bool true]))]) (H := [(23, { val := some (.pv (.sl l.length (l.map .str))) }), (46, { val := some (.pv (.int .i64 a)) }), (49, { val := some (.pv (.bool true)) })]) ?_)
    simp only [c24, intsP, mem2_get, mem2_last, mem2_set0, mem2_set1, mem_last, mem_set, mem_len, go_sem]
    refine ⟨(by first | exact True.intro | (simp only [vb, lb]; omega) | (simp [vb] <;> omega)), (by first | exact True.intro | ((try dsimp only [go_sem]); first | (simp [vb] <;> omega) | (simp only [vb, and_true, true_implies]; (repeat' (first | (with_reducible assumption) | (with_reducible apply And.intro) | intro _ | ((fail_if_success (with_reducible show (_ : Int) ≤ _)); assumption))) <;> first | omega | rfl | (simp only [ab]; done) | (simp [Nat.mul_one] <;> omega) | (simp_all; done)))), fun _ => ⟨(by first | exact True.intro | (simp only [vb, lb]; omega) | (simp [vb] <;> omega)), ?_, (by first | exact True.intro | (simp only [vb, lb]; omega) | (simp [vb] <;> omega)), ?_, fun _ => ⟨(by first | exact True.intro | (simp only [vb, lb]; omega) | (simp [vb] <;> omega)), (by first | exact True.intro | ((try dsimp only [go_sem]); first | (simp [vb] <;> omega) | (simp only [vb, and_true, true_implies]; (repeat' (first | (with_reducible assumption) | (with_reducible apply And.intro) | intro _ | ((fail_if_success (with_reducible show (_ : Int) ≤ _)); assumption))) <;> first | omega | rfl | (simp only [ab]; done) | (simp [Nat.mul_one] <;> omega) | (simp_all; done)))), ?_⟩, fun h => by simp at h⟩, fun h => by simp at h⟩
    ·exact ⟨hT, by simp [e1, e2], trivial⟩
    ·simp [All, VCs]; omega
    ·exact ⟨⟨trivial, trivial⟩, _, rfl⟩
   | [d] =>
    refine aw_seq (evC_aw (T := [(63, fun _ => some (.tup [intsP [d], .bool true]))]) (H := [(23, { val := some (.pv (.sl l.length (l.map .str))) }), (46, { val := some (.pv (.int .i64 0)) }), (49, { val := some (.pv (.bool false)) })]) ?_)
    simp only [c24, intsP, mem2_get, mem2_last, mem2_set0, mem2_set1, mem_last, mem_set, mem_len, go_sem]
    refine ⟨(by first | exact True.intro | (simp only [vb, lb]; omega) | (simp [vb] <;> omega)), (by first | exact True.intro | ((try dsimp only [go_sem]); first | (simp [vb] <;> omega) | (simp only [vb, and_true, true_implies]; (repeat' (first | (with_reducible assumption) | (with_reducible apply And.intro) | intro _ | ((fail_if_success (with_reducible show (_ : Int) ≤ _)); assumption))) <;> first | omega | rfl | (simp only [ab]; done) | (simp [Nat.mul_one] <;> omega) | (simp_all; done)))), fun _ => ⟨(by first | exact True.intro | (simp only [vb, lb]; omega) | (simp [vb] <;> omega)), ?_, (by first | exact True.intro | (simp only [vb, lb]; omega) | (simp [vb] <;> omega)), (by first | exact True.intro | ((try dsimp only [go_sem]); first | (simp [vb] <;> omega) | (simp only [vb, and_true, true_implies]; (repeat' (first | (with_reducible assumption) | (with_reducible apply And.intro) | intro _ | ((fail_if_success (with_reducible show (_ : Int) ≤ _)); assumption))) <;> first | omega | rfl | (simp only [ab]; done) | (simp [Nat.mul_one] <;> omega) | (simp_all; done)))), fun h => by simp at h, fun _ => ⟨(by first | exact True.intro | (simp only [vb, lb]; omega) | (simp [vb] <;> omega)), (by first | exact True.intro | ((try dsimp only [go_sem]); first | (simp [vb] <;> omega) | (simp only [vb, and_true, true_implies]; (repeat' (first | (with_reducible assumption) | (with_reducible apply And.intro) | intro _ | ((fail_if_success (with_reducible show (_ : Int) ≤ _)); assumption))) <;> first | omega | rfl | (simp only [ab]; done) | (simp [Nat.mul_one] <;> omega) | (simp_all; done)))), (by first | exact True.intro | (simp only [vb, lb]; omega) | (simp [vb] <;> omega)), (by first | exact True.intro | ((try dsimp only [go_sem]); first | (simp [vb] <;> omega) | (simp only [vb, and_true, true_implies]; (repeat' (first | (with_reducible assumption) | (with_reducible apply And.intro) | intro _ | ((fail_if_success (with_reducible show (_ : Int) ≤ _)); assumption))) <;> first | omega | rfl | (simp only [ab]; done) | (simp [Nat.mul_one] <;> omega) | (simp_all; done)))), fun h => by simp at h, fun _ => ?_⟩⟩, fun h => by simp at h⟩
    ·exact ⟨hT, by simp [e1, e2], trivial⟩
    ·exact aw_frame [(0, .ptr 1 0 0), (5, .ptr μ.length 0 0)] ⟨rfl, rfl, trivial⟩ (hyes _ hfo _)
   | [d, a] =>
    cases ha : (a == 0) with
    | true =>
     have ha' : a = 0 := by simpa using ha
     obtain ⟨rfl, rfl⟩ := hno (hfo.trans (if_pos ha'))
     refine aw_seq (evC_aw (T := [(63, fun _ => some (.tup [intsP [d, a], .bool true]))]) (H := [(23, { val := some (.pv (.sl l.length (l.map .str))) }), (49, { val := some (.pv (.bool true)) })]) ?_)
     simp only [c24, intsP, mem2_get, mem2_last, mem2_set0, mem2_set1, mem_last, mem_set, mem_len, go_sem]
     refine ⟨(by first | exact True.intro | (simp only [vb, lb]; omega) | (simp [vb] <;> omega)), (by first | exact True.intro | ((try dsimp only [go_sem]); first | (simp [vb] <;> omega) | (simp only [vb, and_true, true_implies]; (repeat' (first | (with_reducible assumption) | (with_reducible apply And.intro) | intro _ | ((fail_if_success (with_reducible show (_ : Int) ≤ _)); assumption))) <;> first | omega | rfl | (simp only [ab]; done) | (simp [Nat.mul_one] <;> omega) | (simp_all; done)))), fun _ => ⟨(by first | exact True.intro | (simp only [vb, lb]; omega) | (simp [vb] <;> omega)), ?_, (by first | exact True.intro | (simp only [vb, lb]; omega) | (simp [vb] <;> omega)), (by first | exact True.intro | ((try dsimp only [go_sem]); first | (simp [vb, ha'] <;> omega) | (simp only [vb, and_true, true_implies]; (repeat' (first | (with_reducible assumption) | (with_reducible apply And.intro) | intro _ | ((fail_if_success (with_reducible show (_ : Int) ≤ _)); assumption))) <;> first | omega | rfl | (simp only [ab, ha']; done) | (simp [Nat.mul_one, ha'] <;> omega) | (simp_all; done)))), fun _ => ⟨(by first | exact True.intro | (simp only [vb, lb]; omega) | (simp [vb] <;> omega)), (by first | exact True.intro | ((try dsimp only [go_sem]); first | (simp [vb] <;> omega) | (simp only [vb, and_true, true_implies]; (repeat' (first | (with_reducible assumption) | (with_reducible apply And.intro) | intro _ | ((fail_if_success (with_reducible show (_ : Int) ≤ _)); assumption))) <;> first | omega | rfl | (simp only [ab]; done) | (simp [Nat.mul_one] <;> omega) | (simp_all; done)))), ?_⟩, fun h => by simp at h⟩, fun h => by simp at h⟩
     ·exact ⟨hT, by simp [e1, e2], trivial⟩
     ·exact ⟨⟨trivial, trivial⟩, _, rfl⟩
    | false =>
     have ha' : a ≠ 0 := by simpa using ha
     replace hfo := hfo.trans (if_neg ha')
     refine aw_seq (evC_aw (T := [(63, fun _ => some (.tup [intsP [d, a], .bool true]))]) (H := [(23, { val := some (.pv (.sl l.length (l.map .str))) }), (49, { val := some (.pv (.bool false)) })]) ?_)
     simp only [c24, intsP, mem2_get, mem2_last, mem2_set0, mem2_set1, mem_last, mem_set, mem_len, go_sem]
     refine ⟨(by first | exact True.intro | (simp only [vb, lb]; omega) | (simp [vb] <;> omega)), (by first | exact True.intro | ((try dsimp only [go_sem]); first | (simp [vb] <;> omega) | (simp only [vb, and_true, true_implies]; (repeat' (first | (with_reducible assumption) | (with_reducible apply And.intro) | intro _ | ((fail_if_success (with_reducible show (_ : Int) ≤ _)); assumption))) <;> first | omega | rfl | (simp only [ab]; done) | (simp [Nat.mul_one] <;> omega) | (simp_all; done)))), fun _ => ⟨(by first | exact True.intro | (simp only [vb, lb]; omega) | (simp [vb] <;> omega)), ?_, (by first | exact True.intro | (simp only [vb, lb]; omega) | (simp [vb] <;> omega)), (by first | exact True.intro | ((try dsimp only [go_sem]); first | (simp [vb, ha'] <;> omega) | (simp only [vb, and_true, true_implies]; (repeat' (first | (with_reducible assumption) | (with_reducible apply And.intro) | intro _ | ((fail_if_success (with_reducible show (_ : Int) ≤ _)); assumption))) <;> first | omega | rfl | (simp only [ab, ha']; done) | (simp [Nat.mul_one, ha'] <;> omega) | (simp_all; done)))), fun h => by simp at h, fun _ => ⟨(by first | exact True.intro | (simp only [vb, lb]; omega) | (simp [vb] <;> omega)), (by first | exact True.intro | ((try dsimp only [go_sem]); first | (simp [vb] <;> omega) | (simp only [vb, and_true, true_implies]; (repeat' (first | (with_reducible assumption) | (with_reducible apply And.intro) | intro _ | ((fail_if_success (with_reducible show (_ : Int) ≤ _)); assumption))) <;> first | omega | rfl | (simp only [ab]; done) | (simp [Nat.mul_one] <;> omega) | (simp_all; done)))), (by first | exact True.intro | (simp only [vb, lb]; omega) | (simp [vb] <;> omega)), (by first | exact True.intro | ((try dsimp only [go_sem]); first | (simp [vb] <;> omega) | (simp only [vb, and_true, true_implies]; (repeat' (first | (with_reducible assumption) | (with_reducible apply And.intro) | intro _ | ((fail_if_success (with_reducible show (_ : Int) ≤ _)); assumption))) <;> first | omega | rfl | (simp only [ab]; done) | (simp [Nat.mul_one] <;> omega) | (simp_all; done)))), fun _ => ⟨(by first | exact True.intro | (simp only [vb, lb]; omega) | (simp [vb] <;> omega)), (by first | exact True.intro | ((try dsimp only [go_sem]); first | (simp [vb] <;> omega) | (simp only [vb, and_true, true_implies]; (repeat' (first | (with_reducible assumption) | (with_reducible apply And.intro) | intro _ | ((fail_if_success (with_reducible show (_ : Int) ≤ _)); assumption))) <;> first | omega | rfl | (simp only [ab]; done) | (simp [Nat.mul_one] <;> omega) | (simp_all; done)))), ?_⟩, fun h => by simp at h⟩⟩, fun h => by simp at h⟩
     ·exact ⟨hT, by simp [e1, e2], trivial⟩
     ·exact aw_frame [(0, .ptr 1 0 0), (5, .ptr μ.length 0 0)] ⟨rfl, rfl, trivial⟩ (hyes _ hfo _)
end
section
open Sch
def c67 : ACode := (⟨_, by conv => (lhs; reduce; try simp only [lt1, Int.cast_ofNat_Int, Int.reduceNegSucc, UInt8.reduceOfNat])⟩ : {x // codeOf Tryz.prog 67 (fun _ => false) = some x}).1
theorem fn67 : fnOf Tryz.prog 67 (fun _ => false) = some (c67, [.t 4], 19, true) := by kernel_rfl
def c65 : ACode := (⟨_, by conv => (lhs; reduce; try simp only [lt1, Int.cast_ofNat_Int, Int.reduceNegSucc, UInt8.reduceOfNat])⟩ : {x // codeOf Tryz.prog 65 (fun _ => false) = some x}).1
theorem fn65 : fnOf Tryz.prog 65 (fun _ => false) = some (c65, [.t 0], 10, true) := by kernel_rfl
def shapesL : List PV := [.str [115, 117, 98, 109, 105, 116], .agg [.int .i64 3, .int .i64 3], .str [114, 101, 97, 100], .agg [.int .i64 4, .int .i64 (-1)], .str [99, 117, 116], .agg [.int .i64 2, .int .i64 2],
 .str [104, 101, 97, 108], .agg [.int .i64 2, .int .i64 2], .str [99, 114, 97, 115, 104], .agg [.int .i64 2, .int .i64 (-1)], .str [114, 101, 115, 116, 97, 114, 116], .agg [.int .i64 1, .int .i64 1], .str [118, 111, 116, 101, 114, 115], .agg [.int .i64 2, .int .i64 (-1)]]
theorem shapes_ok : PureOK ctx 65 [] (.mp shapesL) := by
 refine pure_body' (C := ctx) (Fn.of fn65 rfl) rfl ?_
 unfold c65
 iterate 5 first
  | refine ⟨by simp [vb, eqKey] <;> omega, by simp [vb, eqKey] <;> omega, ?_⟩
  | (refine evA ?_; iterate 2 (try dsimp only [mpHas, go_sem]))
 exact ⟨trivial, rfl⟩
def idxW (l : List (List UInt8)) (w : List UInt8) : Int := match l.findIdx? (fun x => w == x) with
 | some i => i
 | none => -1
theorem idxW_at {l : List (List UInt8)} {w : List UInt8} {k : Nat} (hk : k < l.length) (hb : ∀ j, j < k → (w == l.getD j []) = false) (h : (w == l.getD k []) = true) : idxW l w = k := by
 have : l.findIdx? (fun x => w == x) = some k := by
  rw [List.findIdx?_eq_some_iff_getElem]
  refine ⟨hk, by simpa [List.getD, List.getElem?_eq_getElem hk] using h, fun j hj => ?_⟩
  have := hb j hj
  simpa [List.getD, List.getElem?_eq_getElem (show j < l.length by omega)] using this
 simp [idxW, this]
theorem idxW_no {l : List (List UInt8)} {w : List UInt8} (hb : ∀ j, j < l.length → (w == l.getD j []) = false) : idxW l w = -1 := by
 have : l.findIdx? (fun x => w == x) = none := by
  rw [List.findIdx?_eq_none_iff]
  intro x hx
  obtain ⟨j, hj, rfl⟩ := List.mem_iff_getElem.mp hx
  have := hb j hj
  simpa [List.getD, List.getElem?_eq_getElem hj] using this
 simp [idxW, this]
set_option maxHeartbeats 1000000 in
theorem index_ok (l : List (List UInt8)) (w : List UInt8) (hl : l.length ≤ 1000000) : PureOK ctx 67 [wordsP l, .str w] (.int .i64 (idxW l w)) := by
 refine pure_body' (C := ctx) (Fn.of fn67 rfl) rfl ?_
 unfold c67
 refine evA ?_
 dsimp only [wordsP, go_sem]
 try dsimp only [wordsP, go_sem]
 refine ⟨(by simp [vb] <;> omega), (by simp [vb] <;> omega), ?_⟩
 refine aw_seq ?_
 refine evA ?_
 dsimp only [go_sem]
 try dsimp only [go_sem]
 refine ⟨(by simp [vb] <;> omega), (by simp [vb] <;> omega), ?_⟩
 refine aw_block ?_
 refine aw_forP l.length (fun k => ∀ j, j < k → (w == l.getD j []) = false) (fun k => [(8, .pv (.int .i64 k)), (7, .pv (.int .i64 l.length)), (0, .pv (.sl l.length (l.map .str))), (1, .pv (.str w))]) (fun _ => []) (fun j hj => by omega) ⟨rfl, rfl, rfl, rfl, trivial⟩ rfl fun k hk hP => ?_
 refine evA ?_
 dsimp only [go_sem]
 try dsimp only [go_sem]
 refine ⟨(by simp [vb] <;> omega), (by simp [vb] <;> omega), ?_⟩
 refine evA ?_
 dsimp only [go_sem]
 refine ⟨fun hc => ?_, fun hc => ?_⟩
 ·have hk2 : k < l.length := by simpa using hc
  have e := getD_map PV.str l k [] default hk2
  simp only [List.getD] at e
  iterate 5 first
   | refine ⟨by simp [vb, hk2] <;> omega, by simp [vb, hk2] <;> omega, ?_⟩
   | (refine evH [(15, { val := some (.pv (.str (l.getD k []))) })] ?_; iterate 2 (try dsimp only [go_sem]))
  cases hq : w == l.getD k [] with
  | true =>
   simp only [List.getD] at hq
   rw [hq]
   iterate 5 first
    | refine ⟨fun _ => ?_, fun h => by simp at h <;> omega⟩
    | refine ⟨by simp [vb] <;> omega, by simp [vb] <;> omega, ?_⟩
    | (refine evA ?_; iterate 2 (try dsimp only [go_sem]))
   exact ⟨trivial, by rw [idxW_at hk2 hP (by simpa [List.getD] using hq)]⟩
  | false =>
   have hq2 := hq
   simp only [List.getD] at hq2
   rw [hq2]
   iterate 5 first
    | refine ⟨fun h => by simp at h <;> omega, fun _ => ?_⟩
    | refine ⟨by simp [vb] <;> omega, by simp [vb] <;> omega, ?_⟩
    | (refine evA ?_; iterate 2 (try dsimp only [go_sem]))
   refine ⟨hk2, fun j hj => ?_, ⟨rfl, rfl, rfl, rfl, trivial⟩, rfl⟩
   by_cases hj2 : j = k
   ·rw [hj2]; exact hq
   ·exact hP j (by omega)
 ·have hk2 : k = l.length := by simp at hc; omega
  subst hk2
  iterate 4 first
   | refine ⟨by simp [vb] <;> omega, by simp [vb] <;> omega, ?_⟩
   | (refine evA ?_; iterate 2 (try dsimp only [go_sem]))
  exact ⟨trivial, by rw [idxW_no hP]⟩
end
section
open Sch
def c25 : ACode := (⟨_, by conv => (lhs; reduce; try simp only [lt1, Int.cast_ofNat_Int, Int.reduceNegSucc, UInt8.reduceOfNat])⟩ : {x // codeOf Tryz.prog 25 (fun _ => false) = some x}).1
theorem fn25 : fnOf Tryz.prog 25 (fun _ => false) = some (c25, [.t 4], 188, true) := by kernel_rfl
def stepEnd : ACode := (⟨_, by conv => (lhs; reduce; try simp only [lt1, Int.cast_ofNat_Int, Int.reduceNegSucc, UInt8.reduceOfNat])⟩ : {x // c25.sub [1, 1, 1, 1, 1, 1, 1, 1, 1, 1, 1, 1, 1] = x}).1
def step22 : ACode := (⟨_, by conv => (lhs; reduce; try simp only [lt1, Int.cast_ofNat_Int, Int.reduceNegSucc, UInt8.reduceOfNat])⟩ : {x // c25.sub [1, 1, 1, 1, 1, 1, 1, 1, 1] = x}).1
def step9 : ACode := (⟨_, by conv => (lhs; reduce; try simp only [lt1, Int.cast_ofNat_Int, Int.reduceNegSucc, UInt8.reduceOfNat])⟩ : {x // c25.sub [1, 1, 1, 1, 1, 1, 1] = x}).1
def stepLoop : ACode := (⟨_, by conv => (lhs; reduce; try simp only [lt1, Int.cast_ofNat_Int, Int.reduceNegSucc, UInt8.reduceOfNat])⟩ : {x // c25.sub [1, 1, 1, 1, 1, 1, 1, 1, 0, 1, 0, 0, 1, 0] = x}).1
def fatesN : List Fate → PV
 | [] => .nilsl
 | x :: r => .sl (r.length + 1) ((x :: r).flatMap fateC)
def stepsN : List Step → PV
 | [] => .nilsl
 | x :: r => .sl (r.length + 1) ((x :: r).flatMap stepC)
def schedN (s : Sched) (st : PV) : PV := .agg [.int .i64 s.replicas, .int .i64 s.sessions, .int .i64 s.sectors, .int .i64 s.ticks, st, fatesN s.fates, stepsN s.steps]
theorem canon_bool (d : Nat) (b : Bool) : canon d (.bool b) = .bool b := by cases d <;> rfl
theorem canon_fates (d : Nat) (l : List Fate) : canon (d + 1) (fatesN l) = fatesP l := by
 cases l with
 | nil => rfl
 | cons x r =>
  rw [fatesN, fatesP, canon_sl, List.map_flatMap]
  simp only [fateC, List.map_cons, List.map_nil, canon_int, canon_bool, List.length_cons]
  rfl
theorem canon_stepC (d : Nat) (x : Step) : (stepC x).map (canon (d + 1)) = stepC x := by
 simp only [stepC, List.map_cons, List.map_nil, canon_int, canon_queries, canon_ints]
theorem canon_steps (d : Nat) (l : List Step) : canon (d + 2) (stepsN l) = stepsP l := by
 cases l with
 | nil => rfl
 | cons x r =>
  simp only [stepsN, stepsP, canon_sl, List.map_flatMap, canon_stepC, List.length_cons]
theorem canon_step (d : Nat) (x : Step) : canon (d + 2) (stepP x) = stepP x := by
 simp only [stepP, canon_agg, canon_stepC]
theorem canon_sched (s : Sched) : canon 3 (schedN s (intsP s.state)) = schedP s := by
 simp only [schedN, canon_agg, schedP, List.map_cons, List.map_nil, canon_int, canon_ints, canon_fates, canon_steps]
theorem follows_okN (s : Sched) (x : Step) (hm : Mild s) (hz : Sizes x) (hn : s.steps.length ≤ 9223372036854775800) : PureOK ctx 42 [schedN s (intsP s.state), stepP x] (.bool (follows s x)) := by
 refine PureOK.canon_args 3 ?_
 simp only [List.map_cons, List.map_nil]
 rw [canon_sched, canon_step 1 x]
 exact follows_ok s x hm hz hn
theorem plains_map : ∀ (l : List PV), plains (l.map .pv) = some l
 | [] => rfl
 | p :: r => by simp only [List.map_cons, plains, plains_map r]
theorem row_ref {μ : AM} {b g n sz : Nat} {e : TypeId} {fz : Bool} {ps : List PV} (hk : μ[b]? = some ⟨ps.map .pv, g, sz, e, fz⟩) (hz : sz ≠ 0) (hl : ps.length = n * sz) : thawRef μ (.ref b g 0 n) = some (.sl n ps) := by
 have h1 : Nat.beq sz 0 = false := by rw [Bool.eq_false_iff]; exact fun h => hz (Nat.eq_of_beq_eq_true h)
 have h2 : Nat.ble (0 + n * sz) (ps.map AV.pv).length = true := Nat.ble_eq_true_of_le (by simp [hl])
 have h3 : ((ps.map AV.pv).drop 0).take (n * sz) = ps.map .pv := by rw [List.drop_zero, List.take_of_length_le (by simp [hl])]
 simp only [thawRef, hk, h1, Nat.beq_refl, h2, h3, plains_map, Bool.not_false, Bool.true_and, cond_true]
theorem thaw_fates {μ : AM} {fs : List Fate} (h : ∀ k, (fatesB fs)[0]? = some k → μ[3]? = some k) : thawRef μ (fatesA fs) = some (fatesN fs) := by
 cases fs with
 | nil => rfl
 | cons f r => exact row_ref (h _ rfl) (by simp) (by rw [flatMap_length fateC_len]; simp)
theorem thaw_steps {μ : AM} {b : Nat} {ss : List Step} (h : ∀ k, (stepsB ss)[0]? = some k → μ[b]? = some k) : thawRef μ (stepsA b ss) = some (stepsN ss) := by
 cases ss with
 | nil => rfl
 | cons f r => exact row_ref (h _ rfl) (by simp) (by rw [flatMap_length stepC_len]; simp)
theorem thaw_sched (s : Sched) (st : PV) (next : Int) (x : PV) (tl : AM) : thawL (rdM s st next ++ tl) [.agg [.pv (.int .i64 s.replicas), .pv (.int .i64 s.sessions), .pv (.int .i64 s.sectors), .pv (.int .i64 s.ticks), .pv st, fatesA s.fates, stepsA (3 + (fatesB s.fates).length) s.steps], .pv x] = some [schedN s st, x] := by
 have h1 : thawRef (rdM s st next ++ tl) (fatesA s.fates) = some (fatesN s.fates) := thaw_fates fun k hk => by
  have : (fatesB s.fates).length = 1 := by
   cases hf : s.fates with
   | nil => rw [hf] at hk; simp [fatesB] at hk
   | cons => rfl
  simp only [rdM, List.cons_append, List.getElem?_cons_succ]
  rw [List.append_assoc, List.getElem?_append_left (by omega)]
  exact hk
 have h2 : thawRef (rdM s st next ++ tl) (stepsA (3 + (fatesB s.fates).length) s.steps) = some (stepsN s.steps) := thaw_steps fun k hk => by
  have : 1 ≤ (stepsB s.steps).length := by
   cases hf : s.steps with
   | nil => rw [hf] at hk; simp [stepsB] at hk
   | cons => simp [stepsB]
  simp only [rdM, List.cons_append, Nat.add_comm 3, List.getElem?_cons_succ]
  rw [List.append_assoc, List.getElem?_append_right (Nat.le_refl _), Nat.sub_self, List.getElem?_append_left (by omega)]
  exact hk
 have h0 : ∀ p, thawRef (rdM s st next ++ tl) (.pv p) = some p := fun _ => rfl
 simp only [thawL, mapAll, thawArg, h1, h2, h0]
 rfl
def stepBlk (x : Step) : Blk := ⟨(stepC x).map .pv, 0, 10, 41, false⟩
theorem step_end (s : Sched) (x : Step) (hm : Mild s) (hz : Sizes x) (hn : s.steps.length ≤ 1000000) (hf : follows s x = true) (own : Nat → Bool) (μ' : AM) (hμ : μ' = rdM { s with steps := s.steps ++ [x] } (intsP s.state) 5) :
  Aw ctx own 188 (rdM s (intsP s.state) 5).length stepEnd (RetRD [.t 4] (.pv (.bool true)) μ') [(0, .ptr 1 0 0), (12, .ptr (rdM s (intsP s.state) 5).length 0 0)] (rdM s (intsP s.state) 5 ++ [stepBlk x]) := by
 subst hμ
 have hF := follows_okN s x hm hz (by omega)
 rw [hf] at hF
 obtain ⟨a, b, c, d, e, fs, ss⟩ := s
 simp only at hn
 unfold schedN stepP stepC at hF
 have hT := thaw_sched ⟨a, b, c, d, e, fs, ss⟩ (intsP e) 5 (stepP x) [stepBlk x]
 cases ss with
 | nil =>
  cases fs with
  | nil =>
   unfold stepEnd
   refine evH [(174, { val := some (.pv (.bool true)), args := some [schedN ⟨a, b, c, d, e, [], []⟩ (intsP e), stepP x] })] ?_
   dsimp only [rdM, resB, mapB, readerB, fatesA_nil, fatesB_nil, stepsA_nil, stepsB_nil, stepBlk, stepC, go_sem]
   try dsimp only [rdM, resB, mapB, readerB, fatesA_nil, fatesB_nil, stepsA_nil, stepsB_nil, stepBlk, stepC, go_sem]
   refine ⟨(by simp [vb] <;> omega), ?_, ?_⟩
   ·exact ⟨hT, hF, trivial⟩
   refine evA ?_
   dsimp only [go_sem]
   refine ⟨fun h => by simp at h <;> omega, fun _ => ?_⟩
   refine evA ?_
   dsimp only [go_sem]
   refine evA ?_
   dsimp only [go_sem]
   try dsimp only [go_sem]
   refine ⟨(by first | exact True.intro | (simp only [vb, lb]; omega) | (simp [vb] <;> omega)), (by first | exact True.intro | ((try dsimp only [go_sem]); first | (simp [vb] <;> omega) | (simp only [vb, and_true, true_implies]; (repeat' (first | (with_reducible assumption) | (with_reducible apply And.intro) | intro _ | ((fail_if_success (with_reducible show (_ : Int) ≤ _)); assumption))) <;> first | omega | rfl | (simp only [ab]; done) | (simp [Nat.mul_one] <;> omega) | (simp_all; done)))), ?_⟩
   refine aw_keep [0, 1, 2, 4] rfl ?_
   refine evA ?_
   dsimp only [go_sem]
   try dsimp only [go_sem]
   refine ⟨(by simp [vb] <;> omega), (by simp [vb] <;> omega), ?_⟩
   refine evA ?_
   dsimp only [go_sem]
   exact ⟨⟨trivial, rfl⟩, [], rfl⟩
  | cons f fr =>
   unfold stepEnd
   refine evH [(174, { val := some (.pv (.bool true)), args := some [schedN ⟨a, b, c, d, e, f :: fr, []⟩ (intsP e), stepP x] })] ?_
   dsimp only [rdM, resB, mapB, readerB, fatesA_cons, fatesB_cons, stepsA_nil, stepsB_nil, stepBlk, stepC, go_sem]
   try dsimp only [rdM, resB, mapB, readerB, fatesA_cons, fatesB_cons, stepsA_nil, stepsB_nil, stepBlk, stepC, go_sem]
   refine ⟨(by simp [vb] <;> omega), ?_, ?_⟩
   ·exact ⟨hT, hF, trivial⟩
   refine evA ?_
   dsimp only [go_sem]
   refine ⟨fun h => by simp at h <;> omega, fun _ => ?_⟩
   refine evA ?_
   dsimp only [go_sem]
   refine evA ?_
   dsimp only [go_sem]
   try dsimp only [go_sem]
   refine ⟨(by first | exact True.intro | (simp only [vb, lb]; omega) | (simp [vb] <;> omega)), (by first | exact True.intro | ((try dsimp only [go_sem]); first | (simp [vb] <;> omega) | (simp only [vb, and_true, true_implies]; (repeat' (first | (with_reducible assumption) | (with_reducible apply And.intro) | intro _ | ((fail_if_success (with_reducible show (_ : Int) ≤ _)); assumption))) <;> first | omega | rfl | (simp only [ab]; done) | (simp [Nat.mul_one] <;> omega) | (simp_all; done)))), ?_⟩
   refine aw_keep [0, 1, 2, 3, 5] rfl ?_
   refine evA ?_
   dsimp only [go_sem]
   try dsimp only [go_sem]
   refine ⟨(by simp [vb] <;> omega), (by simp [vb] <;> omega), ?_⟩
   refine evA ?_
   dsimp only [go_sem]
   refine ⟨⟨trivial, rfl⟩, [], ?_⟩
   have : renV [0, 1, 2, 3, 5] 3 ∘ AV.pv = AV.pv := rfl
   simp [this, fatesA, fatesB, stepsA, stepsB, stepC]
 | cons y yr =>
  simp only [List.length_cons] at hn
  cases fs with
  | nil =>
   unfold stepEnd
   refine evH [(174, { val := some (.pv (.bool true)), args := some [schedN ⟨a, b, c, d, e, [], y :: yr⟩ (intsP e), stepP x] })] ?_
   dsimp only [rdM, resB, mapB, readerB, fatesA_nil, fatesB_nil, stepsA_cons, stepsB_cons, stepBlk, stepC, go_sem]
   try dsimp only [rdM, resB, mapB, readerB, fatesA_nil, fatesB_nil, stepsA_cons, stepsB_cons, stepBlk, stepC, go_sem]
   refine ⟨(by simp [vb] <;> omega), ?_, ?_⟩
   ·exact ⟨hT, hF, trivial⟩
   refine evA ?_
   dsimp only [go_sem]
   refine ⟨fun h => by simp at h <;> omega, fun _ => ?_⟩
   refine evA ?_
   dsimp only [go_sem]
   refine evA ?_
   dsimp only [go_sem]
   try dsimp only [go_sem]
   refine ⟨(by first | exact True.intro | (simp only [vb, lb]; omega) | (simp only [vb, lb, flatMap_length stepC_len, stepC_len]; and_intros <;> first | omega | (simp <;> omega)) | (simp [vb, flatMap_length stepC_len, stepC_len] <;> omega)), (by first | exact True.intro | ((try dsimp only [go_sem]); first | (simp [vb, flatMap_length stepC_len, stepC_len] <;> omega) | (simp only [vb, and_true, true_implies]; (repeat' (first | (with_reducible assumption) | (with_reducible apply And.intro) | intro _ | ((fail_if_success (with_reducible show (_ : Int) ≤ _)); assumption))) <;> first | omega | rfl | (simp only [ab, flatMap_length stepC_len, stepC_len]; done) | (simp [Nat.mul_one, flatMap_length stepC_len, stepC_len] <;> omega) | (simp_all; done)))), ?_⟩
   refine evA ?_
   dsimp only [go_sem]
   try dsimp only [go_sem]
   refine ⟨(by simp [vb, flatMap_length stepC_len, stepC_len] <;> omega), (by simp [vb, flatMap_length stepC_len, stepC_len] <;> omega), ?_⟩
   refine evA ?_
   dsimp only [go_sem]
   refine ⟨⟨trivial, rfl⟩, [stepBlk x], ?_⟩
   simp [fatesA, fatesB, stepsA, stepsB, stepC, stepBlk]
  | cons f fr =>
   unfold stepEnd
   refine evH [(174, { val := some (.pv (.bool true)), args := some [schedN ⟨a, b, c, d, e, f :: fr, y :: yr⟩ (intsP e), stepP x] })] ?_
   dsimp only [rdM, resB, mapB, readerB, fatesA_cons, fatesB_cons, stepsA_cons, stepsB_cons, stepBlk, stepC, go_sem]
   try dsimp only [rdM, resB, mapB, readerB, fatesA_cons, fatesB_cons, stepsA_cons, stepsB_cons, stepBlk, stepC, go_sem]
   refine ⟨(by simp [vb] <;> omega), ?_, ?_⟩
   ·exact ⟨hT, hF, trivial⟩
   refine evA ?_
   dsimp only [go_sem]
   refine ⟨fun h => by simp at h <;> omega, fun _ => ?_⟩
   refine evA ?_
   dsimp only [go_sem]
   refine evA ?_
   dsimp only [go_sem]
   try dsimp only [go_sem]
   refine ⟨(by first | exact True.intro | (simp only [vb, lb]; omega) | (simp only [vb, lb, flatMap_length stepC_len, stepC_len]; and_intros <;> first | omega | (simp <;> omega)) | (simp [vb, flatMap_length stepC_len, stepC_len] <;> omega)), (by first | exact True.intro | ((try dsimp only [go_sem]); first | (simp [vb, flatMap_length stepC_len, stepC_len] <;> omega) | (simp only [vb, and_true, true_implies]; (repeat' (first | (with_reducible assumption) | (with_reducible apply And.intro) | intro _ | ((fail_if_success (with_reducible show (_ : Int) ≤ _)); assumption))) <;> first | omega | rfl | (simp only [ab, flatMap_length stepC_len, stepC_len]; done) | (simp [Nat.mul_one, flatMap_length stepC_len, stepC_len] <;> omega) | (simp_all; done)))), ?_⟩
   refine evA ?_
   dsimp only [go_sem]
   try dsimp only [go_sem]
   refine ⟨(by simp [vb, flatMap_length stepC_len, stepC_len] <;> omega), (by simp [vb, flatMap_length stepC_len, stepC_len] <;> omega), ?_⟩
   refine evA ?_
   dsimp only [go_sem]
   refine ⟨⟨trivial, rfl⟩, [stepBlk x], ?_⟩
   simp [fatesA, fatesB, stepsA, stepsB, stepC, stepBlk]
theorem step_end_no (s : Sched) (x : Step) (hm : Mild s) (hz : Sizes x) (hn : s.steps.length ≤ 1000000) (hf : follows s x = false) (own : Nat → Bool) :
  Aw ctx own 188 (rdM s (intsP s.state) 5).length stepEnd (RetRD [.t 4] (.pv (.bool false)) (rdM s (intsP s.state) 5)) [(0, .ptr 1 0 0), (12, .ptr (rdM s (intsP s.state) 5).length 0 0)] (rdM s (intsP s.state) 5 ++ [stepBlk x]) := by
 have hF := follows_okN s x hm hz (by omega)
 rw [hf] at hF
 obtain ⟨a, b, c, d, e, fs, ss⟩ := s
 simp only at hn
 have hT := thaw_sched ⟨a, b, c, d, e, fs, ss⟩ (intsP e) 5 (stepP x) [stepBlk x]
 cases ss with
 | nil =>
  cases fs with
  | nil =>
   unfold stepEnd
   refine evH [(174, { val := some (.pv (.bool false)), args := some [schedN ⟨a, b, c, d, e, [], []⟩ (intsP e), stepP x] })] ?_
   dsimp only [rdM, resB, mapB, readerB, fatesA_nil, fatesB_nil, stepsA_nil, stepsB_nil, stepBlk, stepC, go_sem]
   try dsimp only [rdM, resB, mapB, readerB, fatesA_nil, fatesB_nil, stepsA_nil, stepsB_nil, stepBlk, stepC, go_sem]
   refine ⟨(by simp [vb] <;> omega), ?_, ?_⟩
   ·exact ⟨hT, hF, trivial⟩
   iterate 5 first
    | refine ⟨fun _ => ?_, fun h => by simp at h <;> omega⟩
    | refine ⟨by simp [vb] <;> omega, by simp [vb] <;> omega, ?_⟩
    | (refine evA ?_; iterate 2 (try dsimp only [go_sem]))
   exact ⟨⟨trivial, rfl⟩, [stepBlk x], rfl⟩
  | cons f fr =>
   unfold stepEnd
   refine evH [(174, { val := some (.pv (.bool false)), args := some [schedN ⟨a, b, c, d, e, f :: fr, []⟩ (intsP e), stepP x] })] ?_
   dsimp only [rdM, resB, mapB, readerB, fatesA_cons, fatesB_cons, stepsA_nil, stepsB_nil, stepBlk, stepC, go_sem]
   try dsimp only [rdM, resB, mapB, readerB, fatesA_cons, fatesB_cons, stepsA_nil, stepsB_nil, stepBlk, stepC, go_sem]
   refine ⟨(by simp [vb] <;> omega), ?_, ?_⟩
   ·exact ⟨hT, hF, trivial⟩
   iterate 5 first
    | refine ⟨fun _ => ?_, fun h => by simp at h <;> omega⟩
    | refine ⟨by simp [vb] <;> omega, by simp [vb] <;> omega, ?_⟩
    | (refine evA ?_; iterate 2 (try dsimp only [go_sem]))
   exact ⟨⟨trivial, rfl⟩, [stepBlk x], rfl⟩
 | cons y yr =>
  cases fs with
  | nil =>
   unfold stepEnd
   refine evH [(174, { val := some (.pv (.bool false)), args := some [schedN ⟨a, b, c, d, e, [], y :: yr⟩ (intsP e), stepP x] })] ?_
   dsimp only [rdM, resB, mapB, readerB, fatesA_nil, fatesB_nil, stepsA_cons, stepsB_cons, stepBlk, stepC, go_sem]
   try dsimp only [rdM, resB, mapB, readerB, fatesA_nil, fatesB_nil, stepsA_cons, stepsB_cons, stepBlk, stepC, go_sem]
   refine ⟨(by simp [vb] <;> omega), ?_, ?_⟩
   ·exact ⟨hT, hF, trivial⟩
   iterate 5 first
    | refine ⟨fun _ => ?_, fun h => by simp at h <;> omega⟩
    | refine ⟨by simp [vb] <;> omega, by simp [vb] <;> omega, ?_⟩
    | (refine evA ?_; iterate 2 (try dsimp only [go_sem]))
   exact ⟨⟨trivial, rfl⟩, [stepBlk x], rfl⟩
  | cons f fr =>
   unfold stepEnd
   refine evH [(174, { val := some (.pv (.bool false)), args := some [schedN ⟨a, b, c, d, e, f :: fr, y :: yr⟩ (intsP e), stepP x] })] ?_
   dsimp only [rdM, resB, mapB, readerB, fatesA_cons, fatesB_cons, stepsA_cons, stepsB_cons, stepBlk, stepC, go_sem]
   try dsimp only [rdM, resB, mapB, readerB, fatesA_cons, fatesB_cons, stepsA_cons, stepsB_cons, stepBlk, stepC, go_sem]
   refine ⟨(by simp [vb] <;> omega), ?_, ?_⟩
   ·exact ⟨hT, hF, trivial⟩
   iterate 5 first
    | refine ⟨fun _ => ?_, fun h => by simp at h <;> omega⟩
    | refine ⟨by simp [vb] <;> omega, by simp [vb] <;> omega, ?_⟩
    | (refine evA ?_; iterate 2 (try dsimp only [go_sem]))
   exact ⟨⟨trivial, rfl⟩, [stepBlk x], rfl⟩
theorem numsOf_len : ∀ {l : List (List UInt8)} {n : List Int}, numsOf l = some n → n.length = l.length
 | [], n, h => by
  simp only [numsOf, Option.some.injEq] at h
  subst h; rfl
 | w :: r, n, h => by
  simp only [numsOf] at h
  split at h
  ·rename_i a b h1 h2
   injection h with h
   subst h
   simp [numsOf_len h2]
  ·cases h
theorem len1 {n : List Int} (h : n.length = 1) : ∃ a, n = [a] := by
 match n, h with
 | [a], _ => exact ⟨a, rfl⟩
theorem len2 {n : List Int} (h : n.length = 2) : ∃ a b, n = [a, b] := by
 match n, h with
 | [a, b], _ => exact ⟨a, b, rfl⟩
theorem len3 {n : List Int} (h : n.length = 3) : ∃ a b c, n = [a, b, c] := by
 match n, h with
 | [a, b, c], _ => exact ⟨a, b, c, rfl⟩
theorem lenG {n : List Int} (h : 2 ≤ n.length) : ∃ a b r, n = a :: b :: r := by
 match n, h with
 | a :: b :: r, _ => exact ⟨a, b, r, rfl⟩
 | [a], h => simp at h
 | [], h => simp at h
theorem sl2 (sv : List Int) : ((sv.length : Int) + 1 + 1 - 2).toNat = sv.length := by omega
theorem sl1 (sv : List Int) : ((sv.length : Int) + 1 + 1 - 1).toNat = sv.length + 1 := by omega
theorem slT (sv : List Int) : List.take sv.length (sv.map (PV.int .i64)) = sv.map (.int .i64) := List.take_of_length_le (by simp)
def buildStep (K : Nat) (t : Int) (qs : List Query) (n : List Int) : Step := match K, n with
 | 0, [a, b, c] => ⟨t, 0, a, 0, b, c, 0, qs, [], []⟩
 | 1, [a, b] => ⟨t, 1, a, 0, b, 0, 0, qs, [], []⟩
 | 2, [a, b] => ⟨t, 2, a, b, 0, 0, 0, qs, [], []⟩
 | 3, [a, b] => ⟨t, 3, a, b, 0, 0, 0, qs, [], []⟩
 | 4, a :: b :: r => ⟨t, 4, a, 0, 0, 0, b, qs, r, []⟩
 | 5, [a] => ⟨t, 5, a, 0, 0, 0, 0, qs, [], []⟩
 | 6, a :: r => ⟨t, 6, a, 0, 0, 0, 0, qs, [], r⟩
 | _, _ => zeroStep
def lensOk (K n : Nat) : Bool := match K with
 | 0 => n == 3
 | 1 => n == 2
 | 2 => n == 2
 | 3 => n == 2
 | 4 => Nat.ble 2 n
 | 5 => n == 1
 | 6 => Nat.ble 2 n
 | _ => false
def xBlk (t K : Int) (q : AV) : Blk := ⟨[.pv (.int .i64 t), .pv (.int .i64 K), .pv (.int .i64 0), .pv (.int .i64 0), .pv (.int .i64 0), .pv (.int .i64 0), .pv (.int .i64 0), q, .pv .nilsl, .pv .nilsl], 0, 10, 41, false⟩
theorem xBlk_weak {c0 c1 c2 c3 c4 c5 c6 : AV} {q : AV} {qs : List Query} {u v : AV} {x : Step} (hx : (stepC x).map AV.pv = [c0, c1, c2, c3, c4, c5, c6, .pv (queriesP qs), .pv (intsP x.survive), .pv (intsP x.voters)]) (hq : CW q (.pv (queriesP qs)))
  (hu : CW u (.pv (intsP x.survive))) (hv : CW v (.pv (intsP x.voters))) (μ : AM) : MW (μ ++ [⟨[c0, c1, c2, c3, c4, c5, c6, q, u, v], 0, 10, 41, false⟩]) (μ ++ [stepBlk x]) := by
 refine MW.last ⟨?_, rfl, rfl, rfl, rfl⟩
 show PW CW _ ((stepC x).map AV.pv)
 rw [hx]
 exact PW.cons (CW.refl _) (PW.cons (CW.refl _) (PW.cons (CW.refl _) (PW.cons (CW.refl _) (PW.cons (CW.refl _) (PW.cons (CW.refl _) (PW.cons (CW.refl _) (PW.cons hq (PW.cons hu (PW.cons hv PW.nil)))))))))
set_option maxHeartbeats 4000000 in
theorem step_mid (μ : AM) (hμ : okMem μ μ.length = true) (K : Nat) (t : Int) (q : AV) (hq1 : oneCell q = true) (qs : List Query) (hq : CW q (.pv (queriesP qs))) (w : List UInt8) (l : List (List UInt8)) (hm : (w :: l).length ≤ 1000000) (hw : ∀ x ∈ w :: l, x.length ≤ 281474976710656) (hlen : lensOk K l.length = true)
  (r : Bool) (μ' : AM) (own : Nat → Bool) (hno : numsOf l = none → r = false ∧ μ' = μ)
  (hyes : ∀ n, numsOf l = some n → Aw ctx own 188 μ.length stepEnd (RetRD [.t 4] (.pv (.bool r)) μ') [(0, .ptr 1 0 0), (12, .ptr μ.length 0 0)] (μ ++ [stepBlk (buildStep K t qs n)])) :
  Aw ctx own 188 μ.length step22 (RetRD [.t 4] (.pv (.bool r)) μ') [(0, .ptr 1 0 0), (11, .pv (wordsP l)), (12, .ptr μ.length 0 0)] (μ ++ [xBlk t K q]) := by
 have hT := tail_ok l w hm hw
 unfold step22
 cases hN : numsOf l with
 | none =>
  rw [hN] at hT
  simp only [wordsP] at hT
  obtain ⟨rfl, rfl⟩ := hno hN
  iterate 9 first
   | refine ⟨fun _ => ?_, fun h => by simp at h <;> omega⟩
   | refine ⟨by simp [vb, hT] <;> omega, by simp [vb, hT] <;> omega, ?_⟩
   | (refine evT [(63, fun _ => some (.tup [.sl 0 [], .bool false]))] ?_; iterate 2 (try simp only [wordsP, xBlk, mem2_get, mem2_last, mem2_set0, mem2_set1, mem_last, mem_set, mem_len, go_sem]))
  exact ⟨⟨trivial, trivial⟩, _, rfl⟩
 | some n =>
  have hl := numsOf_len hN
  rw [hN] at hT
  simp only [wordsP, intsP] at hT
  have hy := hyes n hN
  match K, hlen with
  | 0, hlen =>
   obtain ⟨a, b, c, rfl⟩ := len3 (hl.trans (by simpa [lensOk] using hlen))
   simp only [List.length_cons, List.length_nil, List.map_cons, List.map_nil] at hT
   refine evT [(63, fun _ => some (.tup [.sl 3 [.int .i64 a, .int .i64 b, .int .i64 c], .bool true]))] ?_
   simp only [wordsP, xBlk, mem2_get, mem2_last, mem2_set0, mem2_set1, mem_last, mem_set, mem_len, go_sem]
   try simp only [wordsP, xBlk, mem2_get, mem2_last, mem2_set0, mem2_set1, mem_last, mem_set, mem_len, go_sem]
   refine ⟨(by simp [vb, hT] <;> omega), (by simp [vb, hT] <;> omega), ?_⟩
   iterate 11 first
    | refine ⟨fun h => by simp at h <;> omega, fun _ => ?_⟩
    | refine ⟨by simp [vb] <;> omega, by simp [vb] <;> omega, ?_⟩
    | (refine evA ?_; iterate 2 (try simp only [mem2_get, mem2_last, mem2_set0, mem2_set1, mem_last, mem_set, mem_len, go_sem]))
   refine evA ?_
   simp only [mem2_get, mem2_last, mem2_set0, mem2_set1, mem_last, mem_set, mem_len, go_sem]
   refine ⟨fun _ => ?_, fun h => by simp at h <;> omega⟩
   refine evA ?_
   simp only [mem2_get, mem2_last, mem2_set0, mem2_set1, mem_last, mem_set, mem_len, go_sem]
   try simp only [mem2_get, mem2_last, mem2_set0, mem2_set1, mem_last, mem_set, mem_len, go_sem]
   refine ⟨(by simp [vb] <;> omega), (by simp [vb] <;> omega), (by first | rfl | trivial), ?_⟩
   exact aw_frame [(0, .ptr 1 0 0), (12, .ptr μ.length 0 0)] ⟨rfl, rfl, trivial⟩ (aw_weak (xBlk_weak (x := buildStep 0 t qs [a, b, c]) rfl hq CW.nil CW.nil μ) hy)
  | 1, hlen =>
   obtain ⟨a, b, rfl⟩ := len2 (hl.trans (by simpa [lensOk] using hlen))
   simp only [List.length_cons, List.length_nil, List.map_cons, List.map_nil] at hT
   refine evT [(63, fun _ => some (.tup [.sl 2 [.int .i64 a, .int .i64 b], .bool true]))] ?_
   simp only [wordsP, xBlk, mem2_get, mem2_last, mem2_set0, mem2_set1, mem_last, mem_set, mem_len, go_sem]
   try simp only [wordsP, xBlk, mem2_get, mem2_last, mem2_set0, mem2_set1, mem_last, mem_set, mem_len, go_sem]
   refine ⟨(by simp [vb, hT] <;> omega), (by simp [vb, hT] <;> omega), ?_⟩
   iterate 15 first
    | refine ⟨fun h => by simp at h <;> omega, fun _ => ?_⟩
    | refine ⟨by simp [vb] <;> omega, by simp [vb] <;> omega, ?_⟩
    | (refine evA ?_; iterate 2 (try simp only [mem2_get, mem2_last, mem2_set0, mem2_set1, mem_last, mem_set, mem_len, go_sem]))
   refine evA ?_
   simp only [mem2_get, mem2_last, mem2_set0, mem2_set1, mem_last, mem_set, mem_len, go_sem]
   refine ⟨fun _ => ?_, fun h => by simp at h <;> omega⟩
   refine evA ?_
   simp only [mem2_get, mem2_last, mem2_set0, mem2_set1, mem_last, mem_set, mem_len, go_sem]
   try simp only [mem2_get, mem2_last, mem2_set0, mem2_set1, mem_last, mem_set, mem_len, go_sem]
   refine ⟨(by simp [vb] <;> omega), (by simp [vb] <;> omega), ?_⟩
   exact aw_frame [(0, .ptr 1 0 0), (12, .ptr μ.length 0 0)] ⟨rfl, rfl, trivial⟩ (aw_weak (xBlk_weak (x := buildStep 1 t qs [a, b]) rfl hq CW.nil CW.nil μ) hy)
  | 2, hlen =>
   obtain ⟨a, b, rfl⟩ := len2 (hl.trans (by simpa [lensOk] using hlen))
   simp only [List.length_cons, List.length_nil, List.map_cons, List.map_nil] at hT
   refine evT [(63, fun _ => some (.tup [.sl 2 [.int .i64 a, .int .i64 b], .bool true]))] ?_
   simp only [wordsP, xBlk, mem2_get, mem2_last, mem2_set0, mem2_set1, mem_last, mem_set, mem_len, go_sem]
   try simp only [wordsP, xBlk, mem2_get, mem2_last, mem2_set0, mem2_set1, mem_last, mem_set, mem_len, go_sem]
   refine ⟨(by simp [vb, hT] <;> omega), (by simp [vb, hT] <;> omega), ?_⟩
   iterate 19 first
    | refine ⟨fun h => by simp at h <;> omega, fun _ => ?_⟩
    | refine ⟨by simp [vb] <;> omega, by simp [vb] <;> omega, ?_⟩
    | (refine evA ?_; iterate 2 (try simp only [mem2_get, mem2_last, mem2_set0, mem2_set1, mem_last, mem_set, mem_len, go_sem]))
   iterate 7 first
    | refine ⟨fun _ => ?_, fun h => by simp at h <;> omega⟩
    | refine ⟨by simp [vb] <;> omega, by simp [vb] <;> omega, ?_⟩
    | (refine evA ?_; iterate 2 (try simp only [mem2_get, mem2_last, mem2_set0, mem2_set1, mem_last, mem_set, mem_len, go_sem]))
   exact aw_frame [(0, .ptr 1 0 0), (12, .ptr μ.length 0 0)] ⟨rfl, rfl, trivial⟩ (aw_weak (xBlk_weak (x := buildStep 2 t qs [a, b]) rfl hq CW.nil CW.nil μ) hy)
  | 3, hlen =>
   obtain ⟨a, b, rfl⟩ := len2 (hl.trans (by simpa [lensOk] using hlen))
   simp only [List.length_cons, List.length_nil, List.map_cons, List.map_nil] at hT
   refine evT [(63, fun _ => some (.tup [.sl 2 [.int .i64 a, .int .i64 b], .bool true]))] ?_
   simp only [wordsP, xBlk, mem2_get, mem2_last, mem2_set0, mem2_set1, mem_last, mem_set, mem_len, go_sem]
   try simp only [wordsP, xBlk, mem2_get, mem2_last, mem2_set0, mem2_set1, mem_last, mem_set, mem_len, go_sem]
   refine ⟨(by simp [vb, hT] <;> omega), (by simp [vb, hT] <;> omega), ?_⟩
   iterate 23 first
    | refine ⟨fun h => by simp at h <;> omega, fun _ => ?_⟩
    | refine ⟨by simp [vb] <;> omega, by simp [vb] <;> omega, ?_⟩
    | (refine evA ?_; iterate 2 (try simp only [mem2_get, mem2_last, mem2_set0, mem2_set1, mem_last, mem_set, mem_len, go_sem]))
   refine evA ?_
   simp only [mem2_get, mem2_last, mem2_set0, mem2_set1, mem_last, mem_set, mem_len, go_sem]
   refine ⟨fun _ => ?_, fun h => by simp at h <;> omega⟩
   refine evA ?_
   simp only [mem2_get, mem2_last, mem2_set0, mem2_set1, mem_last, mem_set, mem_len, go_sem]
   try simp only [mem2_get, mem2_last, mem2_set0, mem2_set1, mem_last, mem_set, mem_len, go_sem]
   refine ⟨(by simp [vb] <;> omega), (by simp [vb] <;> omega), ?_⟩
   exact aw_frame [(0, .ptr 1 0 0), (12, .ptr μ.length 0 0)] ⟨rfl, rfl, trivial⟩ (aw_weak (xBlk_weak (x := buildStep 3 t qs [a, b]) rfl hq CW.nil CW.nil μ) hy)
  | 4, hlen =>
   obtain ⟨a, b, sv, rfl⟩ := lenG (n := n) (by rw [hl]; simpa [lensOk] using hlen)
   simp only [List.length_cons, List.length_nil, List.map_cons, List.map_nil] at hT
   refine evT [(63, fun _ => some (.tup [.sl (sv.length + 1 + 1) (.int .i64 a :: .int .i64 b :: sv.map (.int .i64)), .bool true]))] ?_
   simp only [wordsP, xBlk, mem2_get, mem2_last, mem2_set0, mem2_set1, mem_last, mem_set, mem_len, go_sem]
   try simp only [wordsP, xBlk, mem2_get, mem2_last, mem2_set0, mem2_set1, mem_last, mem_set, mem_len, go_sem]
   refine ⟨(by simp [vb, hT] <;> omega), (by simp [vb, hT] <;> omega), ?_⟩
   iterate 27 first
    | refine ⟨fun h => by simp at h <;> omega, fun _ => ?_⟩
    | refine ⟨by simp [vb, sl2 sv, slT sv] <;> omega, by simp [vb, sl2 sv, slT sv] <;> omega, ?_⟩
    | (refine evH [(161, { val := some (.pv (.sl sv.length (sv.map (.int .i64)))) })] ?_; iterate 2 (try simp only [mem2_get, mem2_last, mem2_set0, mem2_set1, mem_last, mem_set, mem_len, go_sem]))
   refine evH [(161, { val := some (.pv (.sl sv.length (sv.map (.int .i64)))) })] ?_
   simp only [mem2_get, mem2_last, mem2_set0, mem2_set1, mem_last, mem_set, mem_len, go_sem]
   refine ⟨fun _ => ?_, fun h => by simp at h <;> omega⟩
   refine evH [(161, { val := some (.pv (.sl sv.length (sv.map (.int .i64)))) })] ?_
   simp only [mem2_get, mem2_last, mem2_set0, mem2_set1, mem_last, mem_set, mem_len, go_sem]
   try simp only [mem2_get, mem2_last, mem2_set0, mem2_set1, mem_last, mem_set, mem_len, go_sem]
   refine ⟨(by simp [vb, sl2 sv, slT sv] <;> omega), (by simp [vb, sl2 sv, slT sv] <;> omega), (by first | rfl | trivial), ?_⟩
   exact aw_frame [(0, .ptr 1 0 0), (12, .ptr μ.length 0 0)] ⟨rfl, rfl, trivial⟩ (aw_weak (xBlk_weak (x := buildStep 4 t qs (a :: b :: sv)) rfl hq (CW.refl _) CW.nil μ) hy)
  | 5, hlen =>
   obtain ⟨a, rfl⟩ := len1 (hl.trans (by simpa [lensOk] using hlen))
   simp only [List.length_cons, List.length_nil, List.map_cons, List.map_nil] at hT
   refine evT [(63, fun _ => some (.tup [.sl 1 [.int .i64 a], .bool true]))] ?_
   simp only [wordsP, xBlk, mem2_get, mem2_last, mem2_set0, mem2_set1, mem_last, mem_set, mem_len, go_sem]
   try simp only [wordsP, xBlk, mem2_get, mem2_last, mem2_set0, mem2_set1, mem_last, mem_set, mem_len, go_sem]
   refine ⟨(by simp [vb, hT] <;> omega), (by simp [vb, hT] <;> omega), ?_⟩
   iterate 34 first
    | refine ⟨fun h => by simp at h <;> omega, fun _ => ?_⟩
    | refine ⟨by simp [vb] <;> omega, by simp [vb] <;> omega, ?_⟩
    | (refine evA ?_; iterate 2 (try simp only [mem2_get, mem2_last, mem2_set0, mem2_set1, mem_last, mem_set, mem_len, go_sem]))
   exact aw_frame [(0, .ptr 1 0 0), (12, .ptr μ.length 0 0)] ⟨rfl, rfl, trivial⟩ (aw_weak (xBlk_weak (x := buildStep 5 t qs [a]) rfl hq CW.nil CW.nil μ) hy)
  | 6, hlen =>
   obtain ⟨a, b, sv, rfl⟩ := lenG (n := n) (by rw [hl]; simpa [lensOk] using hlen)
   simp only [List.length_cons, List.length_nil, List.map_cons, List.map_nil] at hT
   refine evT [(63, fun _ => some (.tup [.sl (sv.length + 1 + 1) (.int .i64 a :: .int .i64 b :: sv.map (.int .i64)), .bool true]))] ?_
   simp only [wordsP, xBlk, mem2_get, mem2_last, mem2_set0, mem2_set1, mem_last, mem_set, mem_len, go_sem]
   try simp only [wordsP, xBlk, mem2_get, mem2_last, mem2_set0, mem2_set1, mem_last, mem_set, mem_len, go_sem]
   refine ⟨(by simp [vb, hT] <;> omega), (by simp [vb, hT] <;> omega), ?_⟩
   iterate 31 first
    | refine ⟨fun h => by simp at h <;> omega, fun _ => ?_⟩
    | refine ⟨by simp [vb, sl1 sv, slT sv] <;> omega, by simp [vb, sl1 sv, slT sv] <;> omega, ?_⟩
    | (refine evH [(167, { val := some (.pv (.sl (sv.length + 1) (.int .i64 b :: sv.map (.int .i64)))) })] ?_; iterate 2 (try simp only [mem2_get, mem2_last, mem2_set0, mem2_set1, mem_last, mem_set, mem_len, go_sem]))
   refine evH [(167, { val := some (.pv (.sl (sv.length + 1) (.int .i64 b :: sv.map (.int .i64)))) })] ?_
   simp only [mem2_get, mem2_last, mem2_set0, mem2_set1, mem_last, mem_set, mem_len, go_sem]
   refine ⟨fun _ => ?_, fun h => by simp at h <;> omega⟩
   refine evH [(167, { val := some (.pv (.sl (sv.length + 1) (.int .i64 b :: sv.map (.int .i64)))) })] ?_
   simp only [mem2_get, mem2_last, mem2_set0, mem2_set1, mem_last, mem_set, mem_len, go_sem]
   try simp only [mem2_get, mem2_last, mem2_set0, mem2_set1, mem_last, mem_set, mem_len, go_sem]
   refine ⟨(by simp [vb, sl1 sv, slT sv] <;> omega), (by simp [vb, sl1 sv, slT sv] <;> omega), ?_⟩
   exact aw_frame [(0, .ptr 1 0 0), (12, .ptr μ.length 0 0)] ⟨rfl, rfl, trivial⟩ (aw_weak (xBlk_weak (x := buildStep 6 t qs (a :: b :: sv)) rfl hq CW.nil (CW.refl _) μ) hy)
end
section
open Sch
theorem thaw_own {d n sz g m : Nat} {e : TypeId} {fz : Bool} {ps : List PV} (hz : Nat.beq sz 0 = false) (hm : m = n) (hl : ps.length = n * sz) : thaw [⟨ps.map .pv, g, sz, e, fz⟩] (d + 2) (.ref 0 g 0 m) = some (.sl n ps) := by
 subst hm
 refine thaw_row rfl hz rfl ?_ (by simp [hl])
 rw [List.drop_zero, List.take_of_length_le (by simp [hl])]
def c86 : ACode := (⟨_, by conv => (lhs; reduce; try simp only [lt1, Int.cast_ofNat_Int, Int.reduceNegSucc, UInt8.reduceOfNat])⟩ : {x // codeOf Tryz.prog 86 (fun d => Nat.beq d 5) = some x}).1
theorem fn86 : fnOf Tryz.prog 86 (fun d => Nat.beq d 5) = some (c86, [.t 2], 8, true) := by kernel_rfl
set_option maxHeartbeats 1000000 in
theorem cloneI_nil : PureOK ctx 86 [.sl 0 []] (.sl 0 []) := by
 refine pure_body' (C := ctx) (Fn.of fn86 rfl) rfl ?_
 unfold c86
 refine evA ?_
 dsimp only [go_sem]
 try dsimp only [go_sem]
 refine ⟨(by simp [vb] <;> omega), (by simp [vb] <;> omega), ?_⟩
 refine aw_nilcase 0 rfl ?_ fun ad c => ?_
 ·iterate 6 first
   | refine ⟨fun _ => ?_, fun h => by simp at h <;> omega⟩
   | refine ⟨by simp [vb] <;> omega, by simp [vb] <;> omega, ?_⟩
   | (refine evA ?_; iterate 2 (try dsimp only [go_sem]))
  refine aw_slotW 2 CW.nil ?_
  refine evA ?_
  dsimp only [go_sem]
  exact ⟨(by first | exact True.intro | (simp only [vb, lb]; omega) | (simp [vb] <;> omega)), rfl⟩
 ·iterate 7 first
   | refine ⟨fun h => by simp at h <;> omega, fun _ => ?_⟩
   | refine ⟨by simp [vb] <;> omega, by simp [vb] <;> omega, ?_⟩
   | (refine evH [(7, { mode := 2 })] ?_; iterate 2 (try dsimp only [go_sem]))
  refine evA ?_
  dsimp only [go_sem]
  exact ⟨(by first | exact True.intro | (simp only [vb, lb]; omega) | (simp [vb] <;> omega)), rfl⟩
set_option maxHeartbeats 1000000 in
theorem cloneI_sl (k : Nat) (cells : List PV) (hk : k ≤ 1000000000000) (hc : cells.length = (k + 1) * 1) : PureOK ctx 86 [.sl (k + 1) cells] (.sl (k + 1) cells) := by
 refine pure_body' (C := ctx) (Fn.of fn86 rfl) rfl ?_
 unfold c86
 iterate 9 first
  | refine ⟨fun h => by simp at h <;> omega, fun _ => ?_⟩
  | refine ⟨by simp [vb] <;> omega, by simp [vb] <;> omega, ?_⟩
  | (refine evH [(7, { mode := 1 })] ?_; iterate 2 (try dsimp only [go_sem]))
 refine evA ?_
 dsimp only [go_sem]
 exact ⟨(by first | exact True.intro | (simp only [vb, lb]; omega) | (simp [vb] <;> omega)), thaw_own rfl (by omega) hc⟩
theorem cloneI_ok (l : List Int) (hl : l.length ≤ 1000000000000) : PureOK ctx 86 [intsP l] (intsP l) := by
 cases l with
 | nil => exact cloneI_nil
 | cons x r => exact cloneI_sl r.length _ (by simp only [List.length_cons] at hl; omega) (by simp)
def c87 : ACode := (⟨_, by conv => (lhs; reduce; try simp only [lt1, Int.cast_ofNat_Int, Int.reduceNegSucc, UInt8.reduceOfNat])⟩ : {x // codeOf Tryz.prog 87 (fun d => Nat.beq d 5) = some x}).1
theorem fn87 : fnOf Tryz.prog 87 (fun d => Nat.beq d 5) = some (c87, [.t 2], 8, true) := by kernel_rfl
set_option maxHeartbeats 1000000 in
theorem cloneF_nil : PureOK ctx 87 [.sl 0 []] (.sl 0 []) := by
 refine pure_body' (C := ctx) (Fn.of fn87 rfl) rfl ?_
 unfold c87
 refine evA ?_
 dsimp only [go_sem]
 try dsimp only [go_sem]
 refine ⟨(by simp [vb] <;> omega), (by simp [vb] <;> omega), ?_⟩
 refine aw_nilcase 0 rfl ?_ fun ad c => ?_
 ·iterate 6 first
   | refine ⟨fun _ => ?_, fun h => by simp at h <;> omega⟩
   | refine ⟨by simp [vb] <;> omega, by simp [vb] <;> omega, ?_⟩
   | (refine evA ?_; iterate 2 (try dsimp only [go_sem]))
  refine aw_slotW 2 CW.nil ?_
  refine evA ?_
  dsimp only [go_sem]
  exact ⟨(by first | exact True.intro | (simp only [vb, lb]; omega) | (simp [vb] <;> omega)), rfl⟩
 ·iterate 7 first
   | refine ⟨fun h => by simp at h <;> omega, fun _ => ?_⟩
   | refine ⟨by simp [vb] <;> omega, by simp [vb] <;> omega, ?_⟩
   | (refine evH [(7, { mode := 2 })] ?_; iterate 2 (try dsimp only [go_sem]))
  refine evA ?_
  dsimp only [go_sem]
  exact ⟨(by first | exact True.intro | (simp only [vb, lb]; omega) | (simp [vb] <;> omega)), rfl⟩
set_option maxHeartbeats 1000000 in
theorem cloneF_sl (k : Nat) (cells : List PV) (hk : k ≤ 1000000000000) (hc : cells.length = (k + 1) * 3) : PureOK ctx 87 [.sl (k + 1) cells] (.sl (k + 1) cells) := by
 refine pure_body' (C := ctx) (Fn.of fn87 rfl) rfl ?_
 unfold c87
 iterate 9 first
  | refine ⟨fun h => by simp at h <;> omega, fun _ => ?_⟩
  | refine ⟨by simp [vb] <;> omega, by simp [vb] <;> omega, ?_⟩
  | (refine evH [(7, { mode := 1 })] ?_; iterate 2 (try dsimp only [go_sem]))
 refine evA ?_
 dsimp only [go_sem]
 exact ⟨(by first | exact True.intro | (simp only [vb, lb]; omega) | (simp [vb] <;> omega)), thaw_own rfl (by omega) hc⟩
theorem cloneF_ok (l : List Fate) (hl : l.length ≤ 1000000000000) : PureOK ctx 87 [fatesP l] (fatesP l) := by
 cases l with
 | nil => exact cloneF_nil
 | cons x r => exact cloneF_sl r.length _ (by simp only [List.length_cons] at hl; omega) (by rw [flatMap_length (g := fateC) (m := 3) (fun _ => rfl), List.length_cons])
def c110 : ACode := (⟨_, by conv => (lhs; reduce; try simp only [lt1, Int.cast_ofNat_Int, Int.reduceNegSucc, UInt8.reduceOfNat])⟩ : {x // codeOf Tryz.prog 110 (fun d => Nat.beq d 5) = some x}).1
theorem fn110 : fnOf Tryz.prog 110 (fun d => Nat.beq d 5) = some (c110, [.t 2], 8, true) := by kernel_rfl
set_option maxHeartbeats 1000000 in
theorem cloneQ_nil : PureOK ctx 110 [.sl 0 []] (.sl 0 []) := by
 refine pure_body' (C := ctx) (Fn.of fn110 rfl) rfl ?_
 unfold c110
 refine evA ?_
 dsimp only [go_sem]
 try dsimp only [go_sem]
 refine ⟨(by simp [vb] <;> omega), (by simp [vb] <;> omega), ?_⟩
 refine aw_nilcase 0 rfl ?_ fun ad c => ?_
 ·iterate 6 first
   | refine ⟨fun _ => ?_, fun h => by simp at h <;> omega⟩
   | refine ⟨by simp [vb] <;> omega, by simp [vb] <;> omega, ?_⟩
   | (refine evA ?_; iterate 2 (try dsimp only [go_sem]))
  refine aw_slotW 2 CW.nil ?_
  refine evA ?_
  dsimp only [go_sem]
  exact ⟨(by first | exact True.intro | (simp only [vb, lb]; omega) | (simp [vb] <;> omega)), rfl⟩
 ·iterate 7 first
   | refine ⟨fun h => by simp at h <;> omega, fun _ => ?_⟩
   | refine ⟨by simp [vb] <;> omega, by simp [vb] <;> omega, ?_⟩
   | (refine evH [(7, { mode := 2 })] ?_; iterate 2 (try dsimp only [go_sem]))
  refine evA ?_
  dsimp only [go_sem]
  exact ⟨(by first | exact True.intro | (simp only [vb, lb]; omega) | (simp [vb] <;> omega)), rfl⟩
set_option maxHeartbeats 1000000 in
theorem cloneQ_sl (k : Nat) (cells : List PV) (hk : k ≤ 1000000000000) (hc : cells.length = (k + 1) * 2) : PureOK ctx 110 [.sl (k + 1) cells] (.sl (k + 1) cells) := by
 refine pure_body' (C := ctx) (Fn.of fn110 rfl) rfl ?_
 unfold c110
 iterate 9 first
  | refine ⟨fun h => by simp at h <;> omega, fun _ => ?_⟩
  | refine ⟨by simp [vb] <;> omega, by simp [vb] <;> omega, ?_⟩
  | (refine evH [(7, { mode := 1 })] ?_; iterate 2 (try dsimp only [go_sem]))
 refine evA ?_
 dsimp only [go_sem]
 exact ⟨(by first | exact True.intro | (simp only [vb, lb]; omega) | (simp [vb] <;> omega)), thaw_own rfl (by omega) hc⟩
theorem cloneQ_ok (l : List Query) (hl : l.length ≤ 1000000000000) : PureOK ctx 110 [queriesP l] (queriesP l) := by
 cases l with
 | nil => exact cloneQ_nil
 | cons x r => exact cloneQ_sl r.length _ (by simp only [List.length_cons] at hl; omega) (by rw [flatMap_length (g := queryC) (m := 2) (fun _ => rfl), List.length_cons])
def c88 : ACode := (⟨_, by conv => (lhs; reduce; try simp only [lt1, Int.cast_ofNat_Int, Int.reduceNegSucc, UInt8.reduceOfNat])⟩ : {x // codeOf Tryz.prog 88 (fun _ => false) = some x}).1
theorem fn88 : fnOf Tryz.prog 88 (fun _ => false) = some (c88, [.cell 2 10 true], 16, true) := by kernel_rfl
structure Short (x : Step) : Prop where
 q : x.queries.length ≤ 1000000000000
 s : x.survive.length ≤ 1000000000000
 t : x.voters.length ≤ 1000000000000
theorem copied_ok (x : Step) (hz : Short x) : PureOK ctx 88 [stepP x] (stepP x) := by
 have h1 := cloneQ_ok x.queries hz.q
 have h2 := cloneI_ok x.survive hz.s
 have h3 := cloneI_ok x.voters hz.t
 refine pure_body' (C := ctx) (Fn.of fn88 rfl) rfl ?_
 unfold c88
 refine evTH [(110, fun _ => some (queriesP x.queries))] [(8, { val := some (.pv (intsP x.survive)) }), (11, { val := some (.pv (intsP x.voters)) })] ?_
 dsimp only [stepP, stepC, queriesP, intsP, go_sem]
 try dsimp only [stepP, stepC, queriesP, intsP, go_sem]
 refine ⟨(by simp [vb, h1, h2, h3] <;> omega), (by simp [vb, h1, h2, h3] <;> omega), ?_⟩
 refine evTH [(110, fun _ => some (queriesP x.queries))] [(8, { val := some (.pv (intsP x.survive)) }), (11, { val := some (.pv (intsP x.voters)) })] ?_
 dsimp only [stepP, stepC, queriesP, intsP, go_sem]
 try dsimp only [stepP, stepC, queriesP, intsP, go_sem]
 refine ⟨(by first | exact True.intro | (simp only [vb, lb]; omega) | (simp only [vb, lb, h1, h2, h3]; and_intros <;> first | omega | (simp <;> omega)) | (simp [vb, h1, h2, h3] <;> omega)), (by first | exact True.intro | ((try dsimp only [go_sem]); first | (simp [vb, h1, h2, h3] <;> omega) | (simp only [vb, and_true, true_implies]; (repeat' (first | (with_reducible assumption) | (with_reducible apply And.intro) | intro _ | ((fail_if_success (with_reducible show (_ : Int) ≤ _)); assumption))) <;> first | omega | rfl | (simp only [ab, h1, h2, h3]; done) | (simp [Nat.mul_one, h1, h2, h3] <;> omega) | (simp_all; done)))), ?_⟩
 refine evTH [(110, fun _ => some (queriesP x.queries))] [(8, { val := some (.pv (intsP x.survive)) }), (11, { val := some (.pv (intsP x.voters)) })] ?_
 dsimp only [stepP, stepC, queriesP, intsP, go_sem]
 try dsimp only [stepP, stepC, queriesP, intsP, go_sem]
 refine ⟨(by simp [vb, h1, h2, h3] <;> omega), (by simp [vb, h1, h2, h3] <;> omega), ?_⟩
 refine evA ?_
 dsimp only [go_sem]
 exact ⟨(by first | exact True.intro | (simp only [vb, lb]; omega) | (simp [vb] <;> omega)), rfl⟩
end
section
open Sch
def c75 : ACode := (⟨_, by conv => (lhs; reduce; try simp only [lt1, Int.cast_ofNat_Int, Int.reduceNegSucc, UInt8.reduceOfNat])⟩ : {x // codeOf Tryz.prog 75 (fun _ => false) = some x}).1
def c78 : ACode := (⟨_, by conv => (lhs; reduce; try simp only [lt1, Int.cast_ofNat_Int, Int.reduceNegSucc, UInt8.reduceOfNat])⟩ : {x // codeOf Tryz.prog 78 (fun d => Nat.beq d 5) = some x}).1
theorem fn78 : fnOf Tryz.prog 78 (fun d => Nat.beq d 5) = some (c78, [.t 2], 8, true) := by kernel_rfl
def c37 : ACode := (⟨_, by conv => (lhs; reduce; try simp only [lt1, Int.cast_ofNat_Int, Int.reduceNegSucc, UInt8.reduceOfNat])⟩ : {x // codeOf Tryz.prog 37 (fun d => Nat.beq d 22) = some x}).1
theorem fn37 : fnOf Tryz.prog 37 (fun d => Nat.beq d 22) = some (c37, [.t 2], 55, true) := by kernel_rfl
theorem list_ok (l : List Int) (hl : l.length ≤ 1000000000000) : PureOK ctx 78 [intsP l] (intsP (l.length :: l)) := by
  refine pure_body' (C := ctx) (Fn.of fn78 rfl) rfl ?_
  unfold c78
  repeat' (first
    | ((with_reducible first | show VCs _ | show All _); simp [vb] <;> omega)
    | exact (rfl : some _ = _)
    | (fail_if_success refine awL ?_
       refine evA ?_
       repeat1' dsimp only [c78, intsP, go_sem]
       first
       | refine aw4 ?_ ?_ rfl ?_
       | apply aw3
       | apply aw2
       | (refine awB (fun hc => ?_) fun hc => ?_ <;> first | (cases hc; done) | (exfalso; simp at hc <;> omega) | (try simp only [bn] at hc; try contradiction))
       | skip))
  exact thaw_own (d := 6) (ps := .int .i64 l.length :: l.map (.int .i64)) rfl (by omega) (by simp)
def numsTo (x : Step) (k : Nat) : List Int := [x.tick, x.kind, x.replica, x.other, x.session, x.action, x.after, x.queries.length] ++ (x.queries.take k).flatMap fun q => [q.1, q.2]
def numsL (x : Step) : List Int := numsTo x x.queries.length ++ ((x.survive.length : Int) :: x.survive) ++ ((x.voters.length : Int) :: x.voters)
theorem numsTo_succ (x : Step) (k : Nat) (hk : k < x.queries.length) : numsTo x (k + 1) = numsTo x k ++ [(x.queries.getD k (0, 0)).1, (x.queries.getD k (0, 0)).2] := by
 have e : x.queries.take (k + 1) = x.queries.take k ++ [x.queries.getD k (0, 0)] := by
  rw [List.take_add_one, List.getD, List.getElem?_eq_getElem hk]
  rfl
 rw [numsTo, e, List.flatMap_append, ← List.append_assoc]
 rfl
theorem numsTo_len (x : Step) (k : Nat) (hk : k ≤ x.queries.length) : (numsTo x k).length = 8 + 2 * k := by
 have : ∀ l : List Query, (l.flatMap fun q => [q.1, q.2]).length = 2 * l.length := fun l => by
  induction l with
  | nil => rfl
  | cons q r ih => simp [ih]; omega
 rw [numsTo, List.length_append, this, List.length_take]
 simp
 omega
def intsA (l : List Int) : List AV := l.map fun n => .pv (.int .i64 n)
set_option maxHeartbeats 1000000 in
theorem refNumbers_step_ok (x : Step) (hq : x.queries.length ≤ 2000000) (h1 : x.survive.length ≤ 2000000) (h2 : x.voters.length ≤ 2000000) : PureOK ctx 37 [stepP x] (intsP (numsL x)) := by
  refine pure_body' (C := ctx) (Fn.of fn37 rfl) rfl ?_
  unfold c37
  repeat' (first
    | ((with_reducible first | show VCs _ | show All _); simp [vb] <;> omega)
    | exact (rfl : some _ = _)
    | (fail_if_success refine awL ?_
       refine evA ?_
       repeat1' dsimp only [c37, stepP, stepC, go_sem]
       first
       | refine aw4 ?_ ?_ rfl ?_
       | apply aw3
       | apply aw2
       | (refine awB (fun hc => ?_) fun hc => ?_ <;> first | (cases hc; done) | (exfalso; simp at hc <;> omega) | (try simp only [bn] at hc; try contradiction))
       | skip))
  refine aw_forP x.queries.length (fun _ => True) (fun k => [(1, .ptr 0 0 0), (3, .ref 1 k 0 (8 + 2 * k)), (4, .pv (.int .i64 k))]) (fun k => [⟨(stepC x).map .pv, 0, 10, 41, false⟩, ⟨intsA (numsTo x k), k, 1, 3, false⟩]) trivial ⟨rfl, rfl, rfl, trivial⟩ rfl fun k hk _ => ?_
  have hl := numsTo_len x k hk
  by_cases hlt : k < x.queries.length
  · have e0 := fm_getD0 queryC_len x.queries k (0, 0) hlt (by omega) default
    have e1 := fm_getD queryC_len x.queries k (0, 0) 1 hlt (by omega) default
    have hs := numsTo_succ x k hlt
    have hql := flatMap_length queryC_len x.queries
    generalize x.queries.getD k (0, 0) = q at *
    simp only [List.getD, queryC, List.getElem?_cons_zero, List.getElem?_cons_succ, Option.getD_some] at e0 e1
    repeat' (first
      | ((with_reducible first | show VCs _ | show All _); simp [vb, e0, e1, hql, hl, intsA] <;> omega)
      | exact (rfl : some _ = _)
      | (fail_if_success refine awL ?_
         refine evH [(36, { val := some (.pv (.int .i64 q.1)) }), (42, { val := some (.pv (.int .i64 q.2)) })] ?_
         repeat1' dsimp only [c37, queriesP, stepC, go_sem]
         first
         | refine aw4 ?_ ?_ rfl ?_
         | apply aw3
         | apply aw2
         | (refine awB (fun hc => ?_) fun hc => ?_ <;> first | (cases hc; done) | (exfalso; simp [e0, e1, hql, hl, intsA] at hc <;> omega) | (try simp only [bn] at hc; try contradiction))
         | skip))
    refine ⟨hlt, trivial, (by (repeat' (first | exact trivial | refine And.intro (by first | rfl | (simp [get, Nat.beq]; done) | (simp [get, Nat.beq]; omega) | (dsimp only [get]; congr 1 <;> first | rfl | omega | (simp; done) | (simp; omega))) ?_))), ?_⟩
    rw [hs]
    simp [intsA, stepC, queriesP]
  · have hkl : k = x.queries.length := by omega
    subst hkl
    have hl1 := list_ok x.survive (by omega)
    have hl2 := list_ok x.voters (by omega)
    repeat' (first
      | ((with_reducible first | show VCs _ | show All _); (try dsimp only [go_sem]); first | (simp [vb, hl1, hl2, hl, intsA] <;> omega) | (simp only [vb, and_true, true_implies]; (repeat' (first | (with_reducible assumption) | (with_reducible apply And.intro) | intro _ | ((fail_if_success (with_reducible show (_ : Int) ≤ _)); assumption))) <;> first | omega | (simp only [ab, hl1, hl2, hl, intsA]; done) | (simp [hl1, hl2, hl, intsA] <;> omega)))
      | exact (rfl : some _ = _)
      | (fail_if_success refine awL ?_
         refine evT [(78, fun ps => match ps with | [.sl n l] => some (.sl (n + 1) (.int .i64 n :: l)) | _ => none)] ?_
         repeat1' dsimp only [c37, queriesP, stepC, intsP, go_sem]
         first
         | refine aw4 ?_ ?_ rfl ?_
         | apply aw3
         | apply aw2
         | (refine awB (fun hc => ?_) fun hc => ?_ <;> first | (cases hc; done) | (exfalso; simp [hl1, hl2, hl, intsA] at hc <;> omega) | (try simp only [bn] at hc; try contradiction))
         | skip))
    refine thaw_rowE (d := 6) rfl rfl rfl ?_ ?_ ?_
    · simp [numsL, intsA]
    · simp [numsL, hl]
      omega
    · simp
end
end Pur
end Go.Proofs.YteokbngllldmdaaGreatDoor
namespace Go.Proofs.YteokbngllldmdaaGreatDoor
open Go.RowKit
open Sch
end Go.Proofs.YteokbngllldmdaaGreatDoor
namespace Go.Proofs.YteokbngllldmdaaGreatDoor
open Go.RowKit
open Sch
end Go.Proofs.YteokbngllldmdaaGreatDoor
namespace Go.Proofs.YteokbngllldmdaaGreatDoor
open Go.RowKit
open Sch
def signed (l : List UInt8) (m : Nat) : Int := if l.head? = some 45 then -(m : Int) else m
end Go.Proofs.YteokbngllldmdaaGreatDoor
namespace Go.Proofs.YteokbngllldmdaaGreatDoor
open Go.RowKit
open Sch
end Go.Proofs.YteokbngllldmdaaGreatDoor
namespace Go.Proofs.YteokbngllldmdaaGreatDoor
open Go.RowKit
open Sch
end Go.Proofs.YteokbngllldmdaaGreatDoor
namespace Go.Proofs.YteokbngllldmdaaGreatDoor
namespace Pur
open Go.RowKit
attribute [local go_sem] evOps evOp evOpV evRun evK argF List.map hintAt stripped get put tmpsOf tmpOf tmpO tmpL tmpP conds ev cond_true cond_false Nat.beq Nat.ble Nat.add quiet After thenR blockR IfD List.append_eq List.nil_append List.cons_append evInt exactI_a exactI_b exactI_c exactI_d exactI_e exactI_f evBin evStr evBool evUn guardC calm quiet.isCallK evPick List.getElem?_cons_zero List.getElem?_cons_succ fromCells fromPVs cellsOf List.all oneCell List.length_cons List.length_nil mkAgg plains List.drop List.take List.getD Option.getD_some bo1 bo2 ba1 ba2 bn1 bn2 kk_i64 kk_u8 kk_i32 kk_u64 setAt List.set Nat.reduceAdd Nat.reduceMul evCall safeCall refsOf refsIn scalarA scalar scalarL thawL mapAll thawArg thawRef after freeze RetD RetE evResult evRess evRes1 thaw_pv mkTup nilOf_a nilOf_b nilOf_bb nilOf_c nilOf_d nilOf_e nilOf_f nilOf_g nilOf_h nilOf_i nilOf_j nilOf_k nilOf_l nilOf_m eqLeaf_a eqLeaf_b eqLeaf_c eqOffs evMM bytesOf evOpsF AfterF footOf footRefs notIn indepF footAt freeOk still evParts fillA zeros intOfA boundA srcOf List.isEmpty appNil_0 appNil_1 appNil_2 Int.reduceToNat Nat.mul_one Nat.reduceSub evC evOpsT evOpsTF autoH tabHint look hintD strip guarded RetPD RetRD mpLen keysOk leafKA leafK bitI nilOf_n nilOf_o Bool.or_false Bool.or_true Bool.and_true Bool.and_false Nat.blt renF renM renB renV idxOf solF solM solA solV thawRef ev1
section
open Sch
end
section
open Sch
def c76 : ACode := (⟨_, by conv => (lhs; reduce; try simp only [lt1, Int.cast_ofNat_Int, Int.reduceNegSucc, UInt8.reduceOfNat])⟩ : {x // codeOf Tryz.prog 76 (fun _ => false) = some x}).1
structure Few (x : Step) : Prop where
 q : x.queries.length ≤ 2000000
 s : x.survive.length ≤ 2000000
 v : x.voters.length ≤ 2000000
theorem numsL_len (x : Step) : (numsL x).length = 10 + 2 * x.queries.length + x.survive.length + x.voters.length := by
 simp [numsL, numsTo_len x _ (Nat.le_refl _)]
 omega
end
end Pur
end Go.Proofs.YteokbngllldmdaaGreatDoor
