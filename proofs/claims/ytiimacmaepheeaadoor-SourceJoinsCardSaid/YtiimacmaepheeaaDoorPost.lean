/-
  The last step of a row: what lay when the call began stands (new blocks may be frozen).
-/
import Derived.Below
import Derived.ChangeSame
import Derived.ProofKit
import Derived.Test.YtiimacmaepheeaaDoorProg
namespace Go.Proofs.YtiimacmaepheeaaDoor
open Go.RowKit Go.WideShapes Go.ChangeShapes

/-- the post condition of a specification, from Below alone -/
theorem post_below {H : Type} {enc : TypeId × Value → H} {P : Program} {f : Func} {s : ChangeSpec} {apart fresh handsOn again : Bool} {W W' : World} {args : Array Value} {v : Value} {ds gs : List (DataW H)}
    {before pa pv : List MemPlace} (hW : DataW.Whole enc P f.params.toList s.vars apart W args.toList ds gs before)
    (hres : ∀ (b : Nat) (sp : Nat → Bool) (hd : Bool), DataW.TrodAll enc P W' b sp hd f.resultTypes.toList (v.resultList f.resultTypes.size) (s.fn H (ds ++ gs)).results [])
    (hargs : ∀ sp : Nat → Bool, (∀ p ∈ before, sp p.block = true) → DataW.TrodAll enc P W' 0 sp true f.params.toList args.toList (s.fn H (ds ++ gs)).args pa)
    (hvars : ∀ sp : Nat → Bool, (∀ p ∈ before, sp p.block = true) → DataW.TrodVars enc P W' sp s.vars (s.fn H (ds ++ gs)).vars pv)
    (hps : before = pa ++ pv) (hb : Below W.heap.size W W')
    (hok : ∀ (j : Nat) (t : TypeId) (r : Value), f.resultTypes[j]? = some t → (v.resultList f.resultTypes.size)[j]? = some r → Value.okWide P W' .any 0 t r) :
    s.post enc P f apart fresh handsOn again W args v W' := by
  have hblk : ∀ x ∈ before, x.block < W.heap.size := fun x hx => hW.lt x hx
  have hsp : ∀ x ∈ before, decide (x.block < W.heap.size) = true := fun x hx => decide_eq_true (hblk x hx)
  have hall : ∀ x ∈ before, (fun _ : Nat => true) x.block = true := fun _ _ => rfl
  have hframe : W.keptBut W' fun x => x ∈ before ∧ x ∈ ([] ++ pa) ++ pv ∨ False := by
    refine World.keptBut_mono (fun x hx => ?_) (hb.frame (· ∈ before))
    exact .inl ⟨hx, by rw [List.nil_append, ← hps]; exact hx⟩
  refine ⟨ds, gs, before, [], pa, pv, hW, hres _ _ _, hargs (fun b => decide (b < W.heap.size)) hsp, hvars (fun b => decide (b < W.heap.size)) hsp, World.keptBut_mono (fun x hx => ?_) hframe, fun _ => ?_⟩
  · rcases hx with ⟨h1, h2⟩ | h
    · refine ⟨h1, ?_⟩
      rw [List.nil_append, ← hps] at h2
      rw [hps, List.mem_append] at h1
      exact Or.inr h1
    · exact h.elim
  · obtain ⟨_, _, _, _, _, hfz, hnd⟩ := hW
    have hpl : before = ([] ++ pa) ++ pv := by rw [List.nil_append]; exact hps
    refine ⟨hok, _, _, ([] ++ pa) ++ pv, ⟨[] ++ pa, pv, trodAll_append (hargs _ hall) (hres _ _ _), hvars _ hall, rfl, fun b off hp => ?_, fun ha => ?_⟩, fun x hx _ => ?_⟩
    · rw [← hpl] at hp
      rw [hb.frozen (p := ⟨b, off, none⟩) (hblk _ hp)]
      exact hfz b off hp
    · rw [← hpl]; exact hnd ha
    · rw [hpl]; exact hx

end Go.Proofs.YtiimacmaepheeaaDoor
