/-
  A part of the proof of the schedule package's laws. (PurAD PurSH)
-/
import Derived.Test.YteokbngllldmdaaGreatDoorR01
set_option maxRecDepth 10000
set_option linter.unusedSimpArgs false
set_option linter.unusedVariables false
namespace Go.Proofs.YteokbngllldmdaaGreatDoor
namespace Pur
open Go.RowKit
section
section
variable {C : Ctx} {w0 w : World} {S : Nat → Prop} {γ : Gh} {μ : AM} {f : AF} {a : Act} {o : Oper} {ops : Array Oper}
def GE (μ0 : AM) (e : Nat → Bool) (M : Nat → AM) (E : Nat → Bool) : Nat → AM
 | 0 => μ0
 | k + 1 => bif E k && e k then M (k + 1) else GE μ0 e M E k
structure TracedE (C : Ctx) (n : Nat) (own : Nat → Bool) (ops : Array Oper) (al : List AOp) (cm dr : Nat → Bool) (hs : Nat → Hint) (e : Nat → Bool) (F : Nat → AF) (M : Nat → AM) (V : Nat → AV) : Prop where
 len : al.length = ops.size
 at_ : ∀ (j : Nat), j < ops.size → ∃ o vc pr, ops[j]? = some o ∧ compOp C.P own n ops o = some (al.getD j default) ∧ evOpV (PureOK C) (RefOK C) (cm j) (dr j) (F j) (M j) (al.getD j default) (hs j) = some (vc, pr, V j, M (j + 1)) ∧ VCs vc ∧ All pr ∧
  F (j + 1) = put (F j) (al.getD j default).dst (V j)
 e1 : ∀ k, k < ops.size → e k = false → M (k + 1) = M k
 e2 : ∀ k, k < ops.size → e k = true → eff (al.getD k default).k = true ∨ (k + 1 = ops.size ∧ still (al.getD k default).k = false ∧ ∀ p, p + 1 < ops.size → ∃ q, p < q ∧ q < ops.size ∧ dep (al.getD p default) (al.getD q default) = true)
theorem any_stepE {n : Nat} {own : Nat → Bool} {al : List AOp} {cm dr : Nat → Bool} {hs : Nat → Hint} {e : Nat → Bool} {F : Nat → AF} {M : Nat → AM} {V : Nat → AV} (hT : TracedE C n own ops al cm dr hs e F M V)
  (hd : ∀ p q, p < q → q < ops.size → dep (al.getD p default) (al.getD q default) = true → ((befs ops.toList []).getD q 0).testBit p = true)
  {E : Nat → Bool} (hcl : ∀ (j : Nat) o, ops[j]? = some o → E j = true → ∀ e ∈ o.after.toList, Region.binds .any e = true → E e.on = true) {q : Nat} (hq : q < ops.size) (hqE : E q = false)
  (hr : ∀ o, ops[q]? = some o → ∀ e ∈ o.after.toList, Region.binds .any e = true → E e.on = true) {E' : Nat → Bool} (hE' : ∀ j, E' j = (j == q || E j))
  (hW : Wd C w0 S γ (GE (M 0) e M E ops.size) w) (hF : FR n w S γ (GF (F 0) al V E ops.size) a) {K' : Act → World → Prop} {Q : Exit → Act → World → Prop}
  (hK : ∀ a' w' S' γ', Ext w S γ w' S' γ' → Wd C w0 S' γ' (GE (M 0) e M E' ops.size) w' → FR n w' S' γ' (GF (F 0) al V E' ops.size) a' → K' a' w') : wpOp C.P ops Q q K' a w := by
 obtain ⟨o, vc, pr, ho, hco, hev, hvc, hpr, hFq⟩ := hT.at_ q hq
 obtain ⟨ow, hkk, hdst, hlt, -⟩ := compOp_inv hco
 have before : ∀ p, p < q → dep (al.getD p default) (al.getD q default) = true → E p = true := fun p hp hdp =>
  ahead (E := fun j => E j = true) (fun j o h1 h2 e h3 h4 => hcl j o (by rw [Array.getElem?_toList] at h1; exact h1) h2 e h3 h4) q o (by rw [Array.getElem?_toList]; exact ho) (hr o ho) p (hd p q hp hq hdp)
 have behind : ∀ p, q < p → p < ops.size → dep (al.getD q default) (al.getD p default) = true → E p = false := fun p hp hps hdp => by
  cases hEp : E p with
  | false => rfl
  | true =>
   obtain ⟨op, _, _, hop, -⟩ := hT.at_ p hps
   have := ahead (E := fun j => E j = true) (fun j o h1 h2 e h3 h4 => hcl j o (by rw [Array.getElem?_toList] at h1; exact h1) h2 e h3 h4) p op (by rw [Array.getElem?_toList]; exact hop) (hcl p op hop hEp) q (hd q p hp hps hdp)
   simp only [hqE] at this
   cases this
 have closed : ∀ p r, p < r → r < ops.size → dep (al.getD p default) (al.getD r default) = true → E r = true → E p = true := fun p r hpr hrs hdp hEr => by
  obtain ⟨or, _, _, hor, -⟩ := hT.at_ r hrs
  exact ahead (E := fun j => E j = true) (fun j o h1 h2 e h3 h4 => hcl j o (by rw [Array.getElem?_toList] at h1; exact h1) h2 e h3 h4) r or (by rw [Array.getElem?_toList]; exact hor) (hcl r or hor hEr) p (hd p r hpr hrs hdp)
 have lastE : ∀ k, q < k → k + 1 = ops.size → (∀ p, p + 1 < ops.size → ∃ q, p < q ∧ q < ops.size ∧ dep (al.getD p default) (al.getD q default) = true) → E k = false := fun k hqk hks htl => by
  cases hEk : E k with
  | false => rfl
  | true =>
   have key : ∀ m p, p + m = k → E p = true := by
    intro m
    induction m using Nat.strongRecOn with
    | _ m ih =>
     intro p hp
     by_cases hm : m = 0
     ·rw [show p = k by omega]; exact hEk
     ·obtain ⟨r, h1, h2, h3⟩ := htl p (by omega)
      exact closed p r h1 h2 h3 (ih (k - r) (by omega) r (by omega))
   have := key (k - q) q (by omega)
   rw [hqE] at this
   cases this
 have reads : ∀ t ∈ readsOf (al.getD q default), get (GF (F 0) al V E ops.size) t = get (F q) t := by
  intro t ht
  have low : ∀ k, k ≤ q → get (GF (F 0) al V E k) t = get (F k) t := by
   intro k
   induction k with
   | zero => intro _; rfl
   | succ k ih =>
    intro hk
    obtain ⟨_, _, _, _, _, _, _, _, hFk⟩ := hT.at_ k (by omega)
    have ih := ih (by omega)
    rw [GF, hFk]
    by_cases hdt : (al.getD k default).dst = some t
    ·have hE := before k (by omega) (by simp only [dep, hit_of hdt ht, Bool.true_or])
     rw [hE, cond_true, hdt, get_put_self, get_put_self]
    ·rw [get_put_ne hdt]
     cases E k with
     | true => rw [cond_true, get_put_ne hdt]; exact ih
     | false => exact ih
  have high : ∀ m, q + m ≤ ops.size → get (GF (F 0) al V E (q + m)) t = get (GF (F 0) al V E q) t := by
   intro m
   induction m with
   | zero => intro _; rfl
   | succ m ih =>
    intro hm
    have ih := ih (by omega)
    show get (GF (F 0) al V E (q + m + 1)) t = _
    rw [GF]
    by_cases hdt : (al.getD (q + m) default).dst = some t
    ·have hE : E (q + m) = false := by
      cases m with
      | zero => exact hqE
      | succ m => exact behind (q + (m + 1)) (by omega) (by omega) (by simp only [dep, hit_of hdt ht, Bool.or_true, Bool.true_or])
     rw [hE]; exact ih
    ·cases E (q + m) with
     | true => rw [cond_true, get_put_ne hdt]; exact ih
     | false => exact ih
  have h1 := high (ops.size - q) (by omega)
  rw [show q + (ops.size - q) = ops.size by omega] at h1
  rw [h1]
  exact low q (Nat.le_refl _)
 have calmM : ∀ k, k < ops.size → e k = false → M (k + 1) = M k := hT.e1
 have memq : still (al.getD q default).k = false → GE (M 0) e M E q = M q ∧ GE (M 0) e M E ops.size = M q := by
  intro hns
  have low : ∀ k, k ≤ q → GE (M 0) e M E k = M k := by
   intro k
   induction k with
   | zero => intro _; rfl
   | succ k ih =>
    intro hk
    have ih := ih (by omega)
    rw [GE]
    cases he : e k with
    | true =>
     have he' : eff (al.getD k default).k = true := (hT.e2 k (by omega) he).resolve_right (fun h => by omega)
     have hE := before k (by omega) (by simp only [dep, he', hns, Bool.not_false, Bool.and_true, Bool.or_true, Bool.true_or])
     rw [hE]; rfl
    | false => rw [Bool.and_false, cond_false, ih, calmM k (by omega) he]
  have high : ∀ m, q + m ≤ ops.size → GE (M 0) e M E (q + m) = GE (M 0) e M E q := by
   intro m
   induction m with
   | zero => intro _; rfl
   | succ m ih =>
    intro hm
    have ih := ih (by omega)
    show GE (M 0) e M E (q + m + 1) = _
    rw [GE]
    cases he : e (q + m) with
    | true =>
     have hE : E (q + m) = false := by
      cases m with
      | zero => exact hqE
      | succ m =>
       rcases hT.e2 (q + (m + 1)) (by omega) he with he' | ⟨h1, -, h3⟩
       ·exact behind (q + (m + 1)) (by omega) (by omega) (by simp only [dep, he', hns, Bool.not_false, Bool.and_true, Bool.or_true])
       ·exact lastE _ (by omega) h1 h3
     rw [hE]; exact ih
    | false => rw [Bool.and_false]; exact ih
  have h1 := high (ops.size - q) (by omega)
  rw [show q + (ops.size - q) = ops.size by omega] at h1
  exact ⟨low q (Nat.le_refl _), h1.trans (low q (Nat.le_refl _))⟩
 have frameNe : ∀ t, (al.getD q default).dst ≠ some t → get (GF (F 0) al V E' ops.size) t = get (GF (F 0) al V E ops.size) t := by
  intro t ht
  have : ∀ k, get (GF (F 0) al V E' k) t = get (GF (F 0) al V E k) t := by
   intro k
   induction k with
   | zero => rfl
   | succ k ih =>
    rw [GF, GF, hE']
    by_cases hkq : k = q
    ·subst hkq
     rw [hqE]
     simp only [beq_self_eq_true, Bool.true_or, cond_true, cond_false]
     rw [get_put_ne ht]; exact ih
    ·rw [show (k == q) = false by simpa using hkq, Bool.false_or]
     cases E k with
     | true =>
      simp only [cond_true]
      by_cases hdt : (al.getD k default).dst = some t
      ·rw [hdt, get_put_self, get_put_self]
      ·rw [get_put_ne hdt, get_put_ne hdt]; exact ih
     | false => exact ih
  exact this _
 have frameEq : ∀ t, (al.getD q default).dst = some t → get (GF (F 0) al V E' ops.size) t = V q := by
  intro t ht
  have : ∀ m, q + 1 + m ≤ ops.size → get (GF (F 0) al V E' (q + 1 + m)) t = V q := by
   intro m
   induction m with
   | zero =>
    intro _
    rw [Nat.add_zero, GF, hE']
    simp only [beq_self_eq_true, Bool.true_or, cond_true]
    rw [ht, get_put_self]
   | succ m ih =>
    intro hm
    have ih := ih (by omega)
    show get (GF (F 0) al V E' (q + 1 + m + 1)) t = _
    rw [GF, hE']
    rw [show (q + 1 + m == q) = false by simp; omega, Bool.false_or]
    by_cases hdt : (al.getD (q + 1 + m) default).dst = some t
    ·have hE := behind (q + 1 + m) (by omega) (by omega) (by simp only [dep, sameDst_of ht hdt, Bool.or_true, Bool.true_or])
     rw [hE]; exact ih
    ·cases E (q + 1 + m) with
     | true => rw [cond_true, get_put_ne hdt]; exact ih
     | false => exact ih
  have h1 := this (ops.size - (q + 1)) (by omega)
  rwa [show q + 1 + (ops.size - (q + 1)) = ops.size by omega] at h1
 have memE' : (e q = false → GE (M 0) e M E' ops.size = GE (M 0) e M E ops.size) ∧ (e q = true → GE (M 0) e M E' ops.size = M (q + 1)) := by
  refine ⟨fun he => ?_, fun he => ?_⟩
  ·have : ∀ k, GE (M 0) e M E' k = GE (M 0) e M E k := by
    intro k
    induction k with
    | zero => rfl
    | succ k ih =>
     rw [GE, GE, hE']
     by_cases hkq : k = q
     ·subst hkq
      rw [he, Bool.and_false, Bool.and_false]; exact ih
     ·rw [show (k == q) = false by simpa using hkq, Bool.false_or, ih]
   exact this _
  ·have hns : still (al.getD q default).k = false := by
    rcases hT.e2 q hq he with he | ⟨-, h, -⟩
    ·cases hk : (al.getD q default).k <;> rw [hk] at he <;> simp [eff, calm] at he <;> simp [still, he]
    ·exact h
   have : ∀ m, q + 1 + m ≤ ops.size → GE (M 0) e M E' (q + 1 + m) = M (q + 1) := by
    intro m
    induction m with
    | zero =>
     intro _
     rw [Nat.add_zero, GE, hE', he]
     simp
    | succ m ih =>
     intro hm
     have ih := ih (by omega)
     show GE (M 0) e M E' (q + 1 + m + 1) = _
     rw [GE, hE']
     rw [show (q + 1 + m == q) = false by simp; omega, Bool.false_or]
     cases he2 : e (q + 1 + m) with
     | true =>
      have hE : E (q + 1 + m) = false := by
       rcases hT.e2 (q + 1 + m) (by omega) he2 with he' | ⟨h1, -, h3⟩
       ·exact behind (q + 1 + m) (by omega) (by omega) (by simp only [dep, he', hns, Bool.not_false, Bool.and_true, Bool.or_true])
       ·exact lastE _ (by omega) h1 h3
      rw [hE]; exact ih
     | false => rw [Bool.and_false]; exact ih
   have h1 := this (ops.size - (q + 1)) (by omega)
   rwa [show q + 1 + (ops.size - (q + 1)) = ops.size by omega] at h1
 have hvals : ∀ t ∈ readsOf (al.getD q default), VR w S γ (get (F q) t) (a.eval (.tmp t)) := fun t ht => by
  rw [← reads t ht]; exact hF.val t
 have fin : ∀ u w' S' γ', Ext w S γ w' S' γ' → Wd C w0 S' γ' (GE (M 0) e M E' ops.size) w' → VR w' S' γ' (V q) u → K' (a.put o.dst u) w' := by
  intro u w' S' γ' hE hW' hv
  refine hK _ w' S' γ' hE hW' ?_
  have hFx := hF.ext hE
  have h1 : FR n w' S' γ' (Pur.put (GF (F 0) al V E ops.size) o.dst (V q)) (a.put o.dst u) := hFx.put hv hlt
  refine ⟨h1.size, h1.defers, fun t => ?_⟩
  have h2 := h1.val t
  by_cases hdt : (al.getD q default).dst = some t
  ·rw [frameEq t hdt]
   rw [← hdst, hdt, get_put_self] at h2
   rw [← hdst, hdt]
   exact h2
  ·rw [frameNe t hdt]
   rw [← hdst] at h2
   rw [get_put_ne hdt] at h2
   rw [← hdst]
   exact h2
 cases hst : still (al.getD q default).k with
 | true =>
  have hcalm : e q = false := by
   cases heq : e q with
   | false => rfl
   | true =>
    rcases hT.e2 q hq heq with h | ⟨-, h, -⟩
    ·cases hk : (al.getD q default).k <;> rw [hk] at hst h <;> simp [still] at hst <;> simp [eff, calm, hst] at h
    ·rw [hst] at h; cases h
  have hev2 := evOpV_still hst hev (GE (M 0) e M E ops.size)
  refine wpOp_of ho (evOpV_sound hW hco hev2 hvc hpr hvals fun u w' S' γ' hE hW' hv => fin u w' S' γ' hE ?_ hv)
  rw [memE'.1 hcalm]; exact hW'
 | false =>
  obtain ⟨-, hm⟩ := memq hst
  rw [hm] at hW
  refine wpOp_of ho (evOpV_sound hW hco hev hvc hpr hvals fun u w' S' γ' hE hW' hv => fin u w' S' γ' hE ?_ hv)
  cases he : e q with
  | true => rw [memE'.2 he]; exact hW'
  | false => rw [memE'.1 he, hm, ← calmM q hq he]; exact hW'
theorem any_soundE {n m : Nat} {own : Nat → Bool} {al : List AOp} {cm dr : Nat → Bool} {hs : Nat → Hint} {e : Nat → Bool} {F : Nat → AF} {M : Nat → AM} {V : Nat → AV} {R : Exit → AF → AM → Prop} (hT : TracedE C n own ops al cm dr hs e F M V)
  (hedge : edgesOk ops.toList 0 = true) (hd : ∀ p q, p < q → q < ops.size → dep (al.getD p default) (al.getD q default) = true → ((befs ops.toList []).getD q 0).testBit p = true) (hR : R .normal (F ops.size) (M ops.size)) :
  ∀ (fuel : Nat) (listed : Array Bool) (S1 : Nat → Prop) (γ1 : Gh) (w1 : World) (a1 : Act), listed.size = ops.size → (List.range ops.size).countP (fun i => !listed.getD i true) ≤ fuel →
   (∀ (j : Nat) o, ops[j]? = some o → listed.getD j true = true → ∀ e ∈ o.after.toList, Region.binds .any e = true → listed.getD e.on true = true) →
   Ext w S γ w1 S1 γ1 → Wd C w0 S1 γ1 (GE (M 0) e M (fun j => listed.getD j true) ops.size) w1 → FR n w1 S1 γ1 (GF (F 0) al V (fun j => listed.getD j true) ops.size) a1 →
   wpAny C.P .any ops (Ends C n m w0 w S γ R) fuel listed a1 w1 := by
 have edge : ∀ (j : Nat) o, ops[j]? = some o → ∀ e ∈ o.after.toList, Region.binds .any e = true → e.on < j := fun j o ho e he hb => by
  have := edgesOk_at ops.toList hedge (by rw [Array.getElem?_toList]; exact ho) e he hb
  omega
 have stop : ∀ (listed : Array Bool) (S1 : Nat → Prop) (γ1 : Gh) (w1 : World) (a1 : Act), listed.size = ops.size → Region.ready .any ops listed = [] →
   Ext w S γ w1 S1 γ1 → Wd C w0 S1 γ1 (GE (M 0) e M (fun j => listed.getD j true) ops.size) w1 → FR n w1 S1 γ1 (GF (F 0) al V (fun j => listed.getD j true) ops.size) a1 → Ends C n m w0 w S γ R .normal a1 w1 := by
  intro listed S1 γ1 w1 a1 hsz hnil hE hW hF
  have all : ∀ j, j < ops.size → listed.getD j true = true := by
   intro j
   induction j using Nat.strongRecOn with
   | _ j ih =>
    intro hj
    cases hl : listed.getD j true with
    | true => rfl
    | false =>
     have ho : ops[j]? = some ops[j] := by simp [hj]
     have : j ∈ Region.ready .any ops listed := ready_mem.mpr ⟨hj, hl, _, ho, fun e he hb => by
      have h1 := edge j _ ho e he hb
      have h2 := ih e.on h1 (by omega)
      have hlt : e.on < listed.size := by omega
      simpa [Array.getD, hlt] using h2⟩
     rw [hnil] at this
     cases this
  have hGF : ∀ k, k ≤ ops.size → GF (F 0) al V (fun j => listed.getD j true) k = F k := by
   intro k
   induction k with
   | zero => intro _; rfl
   | succ k ih =>
    intro hk
    obtain ⟨_, _, _, _, _, _, _, _, hFk⟩ := hT.at_ k (by omega)
    rw [GF, all k (by omega), cond_true, ih (by omega), hFk]
  have hGM : ∀ k, k ≤ ops.size → GE (M 0) e M (fun j => listed.getD j true) k = M k := by
   intro k
   induction k with
   | zero => intro _; rfl
   | succ k ih =>
    intro hk
    rw [GE, all k (by omega), Bool.true_and]
    cases he : e k with
    | true => rfl
    | false =>
     rw [cond_false, ih (by omega)]
     exact (hT.e1 k (by omega) he).symm
  rw [hGM _ (Nat.le_refl _)] at hW
  rw [hGF _ (Nat.le_refl _)] at hF
  exact ⟨S1, γ1, _, _, hE.toM m, hW, hF, hR⟩
 intro fuel
 induction fuel with
 | zero =>
  intro listed S1 γ1 w1 a1 hsz hcnt hcl hE hW hF
  have hnil : Region.ready .any ops listed = [] := by
   cases hr : Region.ready .any ops listed with
   | nil => rfl
   | cons i r =>
    have hi : i ∈ Region.ready .any ops listed := by rw [hr]; exact List.mem_cons_self
    obtain ⟨h1, h2, -⟩ := ready_mem.mp hi
    have : 0 < (List.range ops.size).countP (fun i => !listed.getD i true) := List.countP_pos_iff.mpr ⟨i, List.mem_range.mpr h1, by simp [h2]⟩
    omega
  exact ⟨hnil, stop listed S1 γ1 w1 a1 hsz hnil hE hW hF⟩
 | succ fuel ih =>
  intro listed S1 γ1 w1 a1 hsz hcnt hcl hE hW hF
  refine ⟨fun hnil => stop listed S1 γ1 w1 a1 hsz hnil hE hW hF, fun q hq => ?_⟩
  obtain ⟨h1, h2, o, ho, h3⟩ := ready_mem.mp hq
  have hset : ∀ j, (listed.setIfInBounds q true).getD j true = (j == q || listed.getD j true) := fun j => by
   by_cases hjq : j = q
   ·subst hjq
    simp [Array.getD, hsz, h1]
   ·rw [show (j == q) = false by simpa using hjq, Bool.false_or]
    simp only [Array.getD_eq_getD_getElem?]
    rw [Array.getElem?_setIfInBounds_ne (Ne.symm hjq)]
  have hqE : ∀ e : Nat, e < ops.size → listed.getD e false = true → listed.getD e true = true := fun e he h => by
   have hlt : e < listed.size := by omega
   simpa [Array.getD, hlt] using h
  have hrq : ∀ o, ops[q]? = some o → ∀ e ∈ o.after.toList, Region.binds .any e = true → listed.getD e.on true = true := fun o' ho' e he hb => by
   rw [ho] at ho'; injection ho' with ho'; subst ho'
   have := edge q o ho e he hb
   exact hqE e.on (by omega) (h3 e he hb)
  refine any_stepE hT hd (E := fun j => listed.getD j true) hcl h1 h2 hrq (E' := fun j => (listed.setIfInBounds q true).getD j true) hset hW hF fun a' w' S' γ' hE' hW' hF' => ?_
  refine ih (listed.setIfInBounds q true) S' γ' w' a' (by simp [hsz]) ?_ ?_ (hE.trans hE') hW' hF'
  ·have := countP_less (p := fun i => !listed.getD i true) (q := fun i => !(listed.setIfInBounds q true).getD i true) (List.range ops.size) (List.mem_range.mpr h1) (by simp [h2]) (by rw [hset]; simp) (fun j hj => by
    rw [hset] at hj
    simp only [Bool.not_or, Bool.and_eq_true] at hj
    exact hj.2)
   omega
  ·intro j oj hoj hj e he hb
   rw [hset] at hj ⊢
   simp only [Bool.or_eq_true, beq_iff_eq] at hj ⊢
   rcases hj with hj | hj
   ·subst hj; exact .inr (hrq oj hoj e he hb)
   ·exact .inr (hcl j oj hoj hj e he hb)
def tailOk (al : List AOp) : Bool := ((List.range (al.length - 1)).all fun p => (List.range al.length).any fun q => Nat.blt p q && dep (al.getD p default) (al.getD q default)) && !still (al.getD (al.length - 1) default).k
theorem aw_regionT {n m : Nat} {own : Nat → Bool} {cm : Bool} {al : List AOp} {x : AOp} {hs : List (Nat × Hint)} {h : Hint} {vc vc2 : VC} {pr pr2 : List Prop} {f1 f' : AF} {μ1 μ' : AM} {R : Exit → AF → AM → Prop} (ht : tailOk (al ++ [x]) = true)
  (he : evOps (PureOK C) (RefOK C) cm true al hs 0 [] [] f μ = some (vc, pr, f1, μ1)) (hvc : VCs vc) (hpr : All pr) (he2 : evOp (PureOK C) (RefOK C) false false f1 μ1 x h = some (vc2, pr2, f', μ')) (hvc2 : VCs vc2) (hpr2 : All pr2) (hR : R .normal f' μ') :
  Aw C own n m (.region true (al ++ [x])) R f μ := by
 intro c hc
 obtain ⟨id, ops, rfl, hc, hd⟩ := comp_region hc
 intro w0 S γ w a hW hF
 obtain ⟨-, F, M, V, h1, h2, h3, h4, h5⟩ := evOps_trace al 0 [] [] f μ vc pr f1 μ1 he hvc hpr
 obtain ⟨hl, hat⟩ := compOps_at hc
 replace hl : (al ++ [x]).length = ops.size := hl.trans (Array.length_toList)
 have hl2 : al.length + 1 = ops.size := by rw [← hl]; simp
 rw [Nat.zero_add] at h3 h4
 unfold evOp at he2
 cases hv : evOpV (PureOK C) (RefOK C) false false f1 μ1 x h with
 | none => rw [hv] at he2; cases he2
 | some q =>
  obtain ⟨vc3, pr3, v, μ3⟩ := q
  rw [hv] at he2
  simp only at he2
  obtain ⟨rfl, rfl, rfl, rfl⟩ := some4 he2
  have hg1 : ∀ j, j < al.length → (al ++ [x]).getD j default = al.getD j default := fun j hj => by simp [List.getD, List.getElem?_append_left hj]
  have hg2 : (al ++ [x]).getD al.length default = x := by simp [List.getD]
  simp only [tailOk, Bool.and_eq_true, Bool.not_eq_true'] at ht
  have hT : TracedE C n own ops (al ++ [x]) (fun j => if j < al.length then cm else false) (fun j => decide (j < al.length)) (fun j => if j < al.length then hintAt hs j else h) (fun j => if j < al.length then eff ((al ++ [x]).getD j default).k else true)
    (fun j => if j ≤ al.length then F j else put f1 x.dst v) (fun j => if j ≤ al.length then M j else μ3) (fun j => if j < al.length then V j else v) := by
   refine ⟨hl, fun j hj => ?_, fun k hk hek => ?_, fun k hk hek => ?_⟩
   ·have ho : ops[j]? = some ops[j] := by simp [hj]
    obtain ⟨ao, hao, hco⟩ := hat j ops[j] (by rw [Array.getElem?_toList]; exact ho)
    have hg : (al ++ [x]).getD j default = ao := by rw [List.getD, hao]; rfl
    by_cases hja : j < al.length
    ·obtain ⟨vcj, prj, k1, k2, k3, k4⟩ := h5 j ao (by rw [List.getElem?_append_left hja] at hao; exact hao)
     rw [Nat.zero_add] at k1 k4
     refine ⟨_, vcj, prj, ho, by rw [hg]; exact hco, ?_, k2, k3, ?_⟩
     ·rw [hg]
      simp only [if_pos hja, decide_eq_true hja, if_pos (show j ≤ al.length by omega), if_pos (show j + 1 ≤ al.length by omega)]
      exact k1
     ·rw [hg]
      simp only [if_pos hja, if_pos (show j ≤ al.length by omega), if_pos (show j + 1 ≤ al.length by omega)]
      exact k4
    ·have hja2 : j = al.length := by omega
     subst hja2
     rw [hg2] at hg
     subst hg
     refine ⟨_, vc3, pr3, ho, by rw [hg2]; exact hco, ?_, hvc2, hpr2, ?_⟩
     ·rw [hg2]
      simp only [Nat.lt_irrefl, if_false, decide_false, Nat.le_refl, if_true, if_neg (show ¬ al.length + 1 ≤ al.length by omega), h3, h4]
      exact hv
     ·rw [hg2]
      simp only [Nat.lt_irrefl, if_false, Nat.le_refl, if_true, if_neg (show ¬ al.length + 1 ≤ al.length by omega), h3]
   ·by_cases hka : k < al.length
    ·simp only [if_pos hka] at hek
     obtain ⟨ao, hao, -⟩ := hat k ops[k] (by rw [Array.getElem?_toList]; simp [hk])
     obtain ⟨vcj, prj, k1, -, -, -⟩ := h5 k ao (by rw [List.getElem?_append_left hka] at hao; exact hao)
     rw [Nat.zero_add] at k1
     have hg : (al ++ [x]).getD k default = ao := by rw [List.getD, hao]; rfl
     rw [hg] at hek
     simp only [if_pos (show k ≤ al.length by omega), if_pos (show k + 1 ≤ al.length by omega)]
     exact evOpV_calm (by simpa [eff] using hek) k1
    ·simp only [if_neg hka] at hek; cases hek
   ·by_cases hka : k < al.length
    ·simp only [if_pos hka] at hek
     exact .inl hek
    ·have hka2 : k = al.length := by omega
     subst hka2
     refine .inr ⟨hl2, ?_, fun p hp => ?_⟩
     ·have := ht.2
      rw [hl, ← hl2, Nat.add_sub_cancel] at this
      exact this
     ·have h6 := List.all_eq_true.mp ht.1 p (List.mem_range.mpr (by omega))
      obtain ⟨q, hq1, hq2⟩ := List.any_eq_true.mp h6
      simp only [Bool.and_eq_true] at hq2
      exact ⟨q, Nat.blt_eq.mp hq2.1, by rw [← hl]; exact List.mem_range.mp hq1, hq2.2⟩
  have hok := hd rfl
  simp only [okOrder, Bool.and_eq_true] at hok
  have hdep : ∀ p q, p < q → q < ops.size → dep ((al ++ [x]).getD p default) ((al ++ [x]).getD q default) = true → ((befs ops.toList []).getD q 0).testBit p = true := fun p q hpq hq hdp => by
   have h6 := List.all_eq_true.mp hok.2 q (List.mem_range.mpr (by omega))
   have h7 := List.all_eq_true.mp h6 p (List.mem_range.mpr hpq)
   rw [hdp] at h7
   simpa using h7
  obtain ⟨hW1, hE1⟩ := hW.drew
  refine wp_region_any C.mixed (any_soundE hT hok.1 hdep ?_ ops.size (Array.replicate ops.size false) S γ w.drew a (by simp) (Nat.le_trans (List.countP_le_length) (by simp)) ?_ hE1 ?_ ?_)
  ·simp only [if_neg (show ¬ ops.size ≤ al.length by omega)]
   exact hR
  ·intro j o ho hj
   have hjs : j < ops.size := by
    apply Classical.byContradiction
    intro hn
    rw [Array.getElem?_eq_none (by omega)] at ho
    cases ho
   simp [Array.getD, hjs] at hj
  ·have : ∀ (e : Nat → Bool) (N : Nat → AM) k, k ≤ ops.size → GE (N 0) e N (fun j => (Array.replicate ops.size false).getD j true) k = N 0 := by
    intro e N k
    induction k with
    | zero => intro _; rfl
    | succ k ih =>
     intro hk
     have : (Array.replicate ops.size false).getD k true = false := by simp [Array.getD]; omega
     rw [GE, this, Bool.false_and, cond_false, ih (by omega)]
   have key := this (fun j => if j < al.length then eff ((al ++ [x]).getD j default).k else true) (fun j => if j ≤ al.length then M j else μ3) ops.size (Nat.le_refl _)
   rw [key]
   simp only [Nat.zero_le, if_true, h2]
   exact hW1
  ·have : ∀ (N : Nat → AF) (V : Nat → AV) k, k ≤ ops.size → GF (N 0) (al ++ [x]) V (fun j => (Array.replicate ops.size false).getD j true) k = N 0 := by
    intro N V k
    induction k with
    | zero => intro _; rfl
    | succ k ih =>
     intro hk
     have : (Array.replicate ops.size false).getD k true = false := by simp [Array.getD]; omega
     rw [GF, this, cond_false, ih (by omega)]
   have key := this (fun j => if j ≤ al.length then F j else put f1 x.dst v) (fun j => if j < al.length then V j else v) ops.size (Nat.le_refl _)
   rw [key]
   simp only [Nat.zero_le, if_true, h1]
   exact hF.drew hE1
end
def evOpsTail (X : FuncId → List PV → PV → Prop) (Y : FuncId → List AV → AM → AV → AM → Prop) (T : Tab) (H : List (Nat × Hint)) (cm : Bool) : List AOp → VC → List Prop → AF → AM → Option (VC × List Prop × AF × AM)
 | [], _, _, _, _ => none
 | o :: os, vc, pr, f, μ => match os with
  | [] => match evOp X Y false false f μ o (autoH T (hintD H o.dst) f μ o.k) with
   | some (vc', pr', f', μ') => some (vc' ++ vc, pr' ++ pr, f', μ')
   | none => none
  | _ :: _ => match evOp X Y cm true f μ o (autoH T (hintD H o.dst) (strip cm f o.k) μ o.k) with
   | some (vc', pr', f', μ') => evOpsTail X Y T H cm os (vc' ++ vc) (pr' ++ pr) f' μ'
   | none => none
theorem evOpsTail_split {X : FuncId → List PV → PV → Prop} {Y : FuncId → List AV → AM → AV → AM → Prop} {T : Tab} {H : List (Nat × Hint)} {cm : Bool} : ∀ (al : List AOp) (i : Nat) (vc : VC) (pr : List Prop) (f : AF) (μ : AM) (vcF : VC) (prF : List Prop) (f' : AF) (μ' : AM),
  evOpsTail X Y T H cm al vc pr f μ = some (vcF, prF, f', μ') → ∃ al0 x hs h vc1 pr1 f1 μ1 vc2 pr2, al = al0 ++ [x] ∧ evOps X Y cm true al0 hs i vc pr f μ = some (vc1, pr1, f1, μ1) ∧ evOp X Y false false f1 μ1 x h = some (vc2, pr2, f', μ') ∧ vcF = vc2 ++ vc1 ∧ prF = pr2 ++ pr1
 | [], _, _, _, _, _, _, _, _, _, h => by simp [evOpsTail] at h
 | o :: os, i, vc, pr, f, μ, vcF, prF, f', μ', h => by
  cases os with
  | nil =>
   simp only [evOpsTail] at h
   split at h
   ·rename_i vc' pr' f1 μ1 he
    obtain ⟨rfl, rfl, rfl, rfl⟩ := some4 h
    exact ⟨[], o, [], _, vc, pr, f, μ, vc', pr', rfl, rfl, he, rfl, rfl⟩
   ·cases h
  | cons o2 os =>
   rw [evOpsTail] at h
   split at h
   ·rename_i vc' pr' f1 μ1 he
    obtain ⟨al0, x, hs, hh, vc1, pr1, f2, μ2, vc2, pr2, e1, e2, e3, e4, e5⟩ := evOpsTail_split (o2 :: os) (i + 1) _ _ _ _ _ _ _ _ h
    refine ⟨o :: al0, x, (i, autoH T (hintD H o.dst) (strip cm f o.k) μ o.k) :: hs, hh, vc1, pr1, f2, μ2, vc2, pr2, by rw [e1]; rfl, ?_, e3, e4, e5⟩
    simp only [evOps, hintAt_cons_self, he]
    rw [← e2]
    exact evOps_congr al0 (i + 1) _ _ _ _ fun j hj => hintAt_cons_ne (by omega)
   ·cases h
theorem aw_regT {C : Ctx} {own : Nat → Bool} {n m : Nat} {al : List AOp} {R : Exit → AF → AM → Prop} {f : AF} {μ : AM} {T : Tab} {H : List (Nat × Hint)} (ht : tailOk al = true)
  (h : After (R .normal) (evOpsTail (PureOK C) (RefOK C) T H (guarded al) al [] [] f μ)) : Aw C own n m (.region true al) R f μ := by
 unfold After at h
 split at h
 ·rename_i vc pr f' μ' he
  obtain ⟨al0, x, hs, hh, vc1, pr1, f1, μ1, vc2, pr2, e1, e2, e3, rfl, rfl⟩ := evOpsTail_split al 0 _ _ _ _ _ _ _ _ he
  rw [e1] at ht ⊢
  obtain ⟨h11, h12⟩ := VCs_append h.1
  obtain ⟨h21, h22⟩ := All_append h.2.1
  exact aw_regionT ht e2 h12 h22 e3 h11 h21 h.2.2
 ·exact h.elim
end
section
def swapL {α : Type} : Nat → List α → List α
 | 0, a :: b :: r => b :: a :: r
 | p + 1, a :: r => a :: swapL p r
 | _, l => l
def sg (p j : Nat) : Nat := bif Nat.beq j p then p + 1 else bif Nat.beq j (p + 1) then p else j
theorem sg_l (p : Nat) : sg p p = p + 1 := by simp [sg]
theorem beq_f {i j : Nat} (h : i ≠ j) : Nat.beq i j = false := by
 cases hb : Nat.beq i j with
 | false => rfl
 | true => exact absurd (Nat.eq_of_beq_eq_true hb) h
theorem sg_r (p : Nat) : sg p (p + 1) = p := by
 have : Nat.beq (p + 1) p = false := beq_f (by omega)
 simp [sg, this]
theorem sg_o {p j : Nat} (h1 : j ≠ p) (h2 : j ≠ p + 1) : sg p j = j := by
 have e1 : Nat.beq j p = false := beq_f h1
 have e2 : Nat.beq j (p + 1) = false := beq_f h2
 simp [sg, e1, e2]
theorem sg_sg (p j : Nat) : sg p (sg p j) = j := by
 by_cases h1 : j = p
 ·subst h1; rw [sg_l, sg_r]
 ·by_cases h2 : j = p + 1
  ·subst h2; rw [sg_r, sg_l]
  ·rw [sg_o h1 h2, sg_o h1 h2]
theorem sg_lt {p j n : Nat} (hp : p + 1 < n) (hj : j < n) : sg p j < n := by
 by_cases h1 : j = p
 ·subst h1; rw [sg_l]; exact hp
 ·by_cases h2 : j = p + 1
  ·subst h2; rw [sg_r]; omega
  ·rw [sg_o h1 h2]; exact hj
theorem sg_mono {p i j : Nat} (h : i < j) (hn : ¬ (i = p ∧ j = p + 1)) : sg p i < sg p j := by
 by_cases h1 : i = p
 ·subst h1
  rw [sg_l, sg_o (by omega) (by omega)]
  omega
 ·by_cases h2 : i = p + 1
  ·subst h2
   rw [sg_r, sg_o (by omega) (by omega)]
   omega
  ·rw [sg_o h1 h2]
   by_cases h3 : j = p
   ·subst h3; rw [sg_l]; omega
   ·by_cases h4 : j = p + 1
    ·subst h4; rw [sg_r]; omega
    ·rw [sg_o h3 h4]; exact h
theorem swapL_len {α : Type} : ∀ (p : Nat) (l : List α), (swapL p l).length = l.length
 | 0, [] => rfl
 | 0, [_] => rfl
 | 0, _ :: _ :: _ => rfl
 | _ + 1, [] => rfl
 | p + 1, a :: r => by rw [swapL, List.length_cons, swapL_len p r, List.length_cons]
theorem sg_succ (p j : Nat) : sg (p + 1) (j + 1) = sg p j + 1 := by
 by_cases h1 : j = p
 ·subst h1; rw [sg_l, sg_l]
 ·by_cases h2 : j = p + 1
  ·subst h2; rw [sg_r, sg_r]
  ·rw [sg_o h1 h2, sg_o (by omega) (by omega)]
theorem swapL_at {α : Type} : ∀ (p : Nat) (l : List α) (j : Nat), p + 1 < l.length → (swapL p l)[j]? = l[sg p j]?
 | 0, a :: b :: r, 0, _ => rfl
 | 0, a :: b :: r, 1, _ => rfl
 | 0, a :: b :: r, j + 2, _ => by rw [sg_o (by omega) (by omega)]; rfl
 | p + 1, a :: r, 0, _ => by rw [sg_o (by omega) (by omega)]; rfl
 | p + 1, a :: r, j + 1, h => by
  rw [swapL, sg_succ, List.getElem?_cons_succ, List.getElem?_cons_succ]
  exact swapL_at p r j (by simpa using h)
 | 0, [], _, h => by simp at h
 | 0, [_], _, h => by simp at h
 | _ + 1, [], _, h => by simp at h
def swapOk (p : Nat) (al : List AOp) : Bool := Nat.blt (p + 1) al.length && al.all fun ao => match ao.guard with
 | none => true
 | some (t, _) => !((al.getD p default).dst == some t) && !((al.getD (p + 1) default).dst == some t)
def freeA (p : Nat) : List (Nat × Nat) → List (Nat × Nat)
 | [] => []
 | (u, v) :: r => bif Nat.beq u p && Nat.beq v (p + 1) then freeA p r else (u, v) :: freeA p r
def freeB (p : Nat) : List (Nat × Nat) → List (Nat × Nat)
 | [] => []
 | (u, v) :: r => bif Nat.beq u p && Nat.beq v (p + 1) then freeB p r else (sg p u, sg p v) :: freeB p r
theorem freeA_mem {p u v : Nat} (hn : ¬ (u = p ∧ v = p + 1)) : ∀ {l : List (Nat × Nat)}, (u, v) ∈ l → (u, v) ∈ freeA p l
 | (x, y) :: r, h => by
  rw [freeA]
  cases h with
  | head =>
   have : (Nat.beq u p && Nat.beq v (p + 1)) = false := by
    cases hc : (Nat.beq u p && Nat.beq v (p + 1)) with
    | false => rfl
    | true =>
     rw [Bool.and_eq_true] at hc
     exact absurd ⟨Nat.eq_of_beq_eq_true hc.1, Nat.eq_of_beq_eq_true hc.2⟩ hn
   rw [this, cond_false]
   exact List.mem_cons_self
  | tail _ h =>
   have := freeA_mem hn h
   cases hc : (Nat.beq x p && Nat.beq y (p + 1)) with
   | true => exact this
   | false => exact List.mem_cons_of_mem _ this
theorem freeB_mem {p u v : Nat} (hn : ¬ (u = p ∧ v = p + 1)) : ∀ {l : List (Nat × Nat)}, (u, v) ∈ l → (sg p u, sg p v) ∈ freeB p l
 | (x, y) :: r, h => by
  rw [freeB]
  cases h with
  | head =>
   have : (Nat.beq u p && Nat.beq v (p + 1)) = false := by
    cases hc : (Nat.beq u p && Nat.beq v (p + 1)) with
    | false => rfl
    | true =>
     rw [Bool.and_eq_true] at hc
     exact absurd ⟨Nat.eq_of_beq_eq_true hc.1, Nat.eq_of_beq_eq_true hc.2⟩ hn
   rw [this, cond_false]
   exact List.mem_cons_self
  | tail _ h =>
   have := freeB_mem hn h
   cases hc : (Nat.beq x p && Nat.beq y (p + 1)) with
   | true => exact this
   | false => exact List.mem_cons_of_mem _ this
def Path (ops : Array Oper) : List Nat → Array Bool → Prop
 | [], l => Region.ready .any ops l = []
 | i :: r, l => i ∈ Region.ready .any ops l ∧ Path ops r (l.setIfInBounds i true)
section
variable {C : Ctx} {w0 w : World} {S : Nat → Prop} {γ : Gh} {μ : AM} {f : AF} {a : Act} {ops : Array Oper}
theorem set_listed {listed : Array Bool} {q : Nat} (h1 : q < listed.size) (j : Nat) : (listed.setIfInBounds q true).getD j true = (j == q || listed.getD j true) := by
 by_cases hjq : j = q
 ·subst hjq
  simp [Array.getD, h1]
 ·rw [show (j == q) = false by simpa using hjq, Bool.false_or]
  simp only [Array.getD_eq_getD_getElem?]
  rw [Array.getElem?_setIfInBounds_ne (Ne.symm hjq)]
theorem lin_path : ∀ (fuel t : Nat) (listed : Array Bool), listed.size = ops.size → (List.range ops.size).countP (fun i => !listed.getD i true) ≤ fuel → Path ops (Region.linearise.go .any ops fuel t listed []) listed
 | 0, t, listed, hsz, hc => by
  show Region.ready .any ops listed = []
  cases hr : Region.ready .any ops listed with
  | nil => rfl
  | cons i r =>
   have hi : i ∈ Region.ready .any ops listed := by rw [hr]; exact List.mem_cons_self
   obtain ⟨h1, h2, -⟩ := ready_mem.mp hi
   have : 0 < (List.range ops.size).countP (fun i => !listed.getD i true) := List.countP_pos_iff.mpr ⟨i, List.mem_range.mpr h1, by simp [h2]⟩
   omega
 | fuel + 1, t, listed, hsz, hc => by
  simp only [Region.linearise.go]
  change Path ops (match (Region.ready .any ops listed)[t % (Region.ready .any ops listed).length]? with
   | some i => Region.linearise.go .any ops fuel (t / (Region.ready .any ops listed).length) (listed.setIfInBounds i true) [i]
   | none => [].reverse) listed
  cases hi : (Region.ready .any ops listed)[t % (Region.ready .any ops listed).length]? with
  | none =>
   show Region.ready .any ops listed = []
   cases hr : Region.ready .any ops listed with
   | nil => rfl
   | cons x xs =>
    rw [hr] at hi
    have hlt : t % (x :: xs).length < (x :: xs).length := Nat.mod_lt _ (by simp)
    simp at hi
    simp at hlt
    omega
  | some i =>
   simp only []
   rw [linearise_go_acc, List.reverse_singleton, List.singleton_append]
   have hm := List.mem_of_getElem? hi
   obtain ⟨h1, h2, -⟩ := ready_mem.mp hm
   refine ⟨hm, lin_path fuel _ _ (by simp [hsz]) ?_⟩
   have := countP_less (p := fun i => !listed.getD i true) (q := fun j => !(listed.setIfInBounds i true).getD j true) (List.range ops.size) (List.mem_range.mpr h1) (by simp [h2]) (by rw [set_listed (by omega)]; simp) (fun j hj => by
    rw [set_listed (by omega)] at hj
    simp only [Bool.not_or, Bool.and_eq_true] at hj
    exact hj.2)
   omega
def Good (n : Nat) (B : Nat → Nat → Prop) : List Nat → (Nat → Bool) → Prop
 | [], E => ∀ j, j < n → E j = true
 | q :: r, E => q < n ∧ E q = false ∧ (∀ p, p < q → B p q → E p = true) ∧ (∀ p, q < p → p < n → B q p → E p = false) ∧ Good n B r (fun j => j == q || E j)
abbrev bd (ops : Array Oper) (p q : Nat) : Prop := ((befs ops.toList []).getD q 0).testBit p = true
theorem path_good (hedge : edgesOk ops.toList 0 = true) : ∀ (L : List Nat) (listed : Array Bool), listed.size = ops.size → (∀ (j : Nat) o, ops[j]? = some o → listed.getD j true = true → ∀ e ∈ o.after.toList, Region.binds .any e = true → listed.getD e.on true = true) →
  Path ops L listed → Good ops.size (bd ops) L (fun j => listed.getD j true)
 | [], listed, hsz, hcl, h => by
  have edge : ∀ (j : Nat) o, ops[j]? = some o → ∀ e ∈ o.after.toList, Region.binds .any e = true → e.on < j := fun j o ho e he hb => by
   have := edgesOk_at ops.toList hedge (by rw [Array.getElem?_toList]; exact ho) e he hb
   omega
  intro j
  induction j using Nat.strongRecOn with
  | _ j ih =>
   intro hj
   cases hl : listed.getD j true with
   | true => exact hl
   | false =>
    have ho : ops[j]? = some ops[j] := by simp [hj]
    have : j ∈ Region.ready .any ops listed := ready_mem.mpr ⟨hj, hl, _, ho, fun e he hb => by
     have h1 := edge j _ ho e he hb
     have h2 := ih e.on h1 (by omega)
     have hlt : e.on < listed.size := by omega
     simpa [Array.getD, hlt] using h2⟩
    rw [show Region.ready .any ops listed = [] from h] at this
    cases this
 | q :: r, listed, hsz, hcl, h => by
  obtain ⟨hm, hp⟩ := h
  obtain ⟨h1, h2, o, ho, h3⟩ := ready_mem.mp hm
  have edge : ∀ (j : Nat) o, ops[j]? = some o → ∀ e ∈ o.after.toList, Region.binds .any e = true → e.on < j := fun j o ho e he hb => by
   have := edgesOk_at ops.toList hedge (by rw [Array.getElem?_toList]; exact ho) e he hb
   omega
  have hrq : ∀ e ∈ o.after.toList, Region.binds .any e = true → listed.getD e.on true = true := fun e he hb => by
   have h4 := edge q o ho e he hb
   have h5 := h3 e he hb
   have hlt : e.on < listed.size := by omega
   simpa [Array.getD, hlt] using h5
  have hset := set_listed (listed := listed) (q := q) (by omega)
  refine ⟨h1, h2, fun p hp hb => ?_, fun p hp hps hb => ?_, ?_⟩
  ·exact ahead (E := fun j => listed.getD j true = true) (fun j o h1 h2 e h3 h4 => hcl j o (by rw [Array.getElem?_toList] at h1; exact h1) h2 e h3 h4) q o (by rw [Array.getElem?_toList]; exact ho) hrq p hb
  ·cases hEp : listed.getD p true with
   | false => exact hEp
   | true =>
    have hop : ops[p]? = some ops[p] := by simp [hps]
    have := ahead (E := fun j => listed.getD j true = true) (fun j o h1 h2 e h3 h4 => hcl j o (by rw [Array.getElem?_toList] at h1; exact h1) h2 e h3 h4) p _ (by rw [Array.getElem?_toList]; exact hop) (hcl p _ hop hEp) q hb
    simp only [h2] at this
    cases this
  ·rw [← show (fun j => (listed.setIfInBounds q true).getD j true) = (fun j => j == q || listed.getD j true) from funext hset]
   refine path_good hedge r _ (by simp [hsz]) (fun j oj hoj hj e he hb => ?_) hp
   rw [hset] at hj ⊢
   simp only [Bool.or_eq_true, beq_iff_eq] at hj ⊢
   rcases hj with hj | hj
   ·subst hj
    rw [ho] at hoj
    injection hoj with hoj
    subst hoj
    exact .inr (hrq e he hb)
   ·exact .inr (hcl j oj hoj hj e he hb)
theorem good_two {n p : Nat} (hpn : p + 1 < n) {B : Nat → Nat → Prop} : ∀ (L : List Nat) (E : Nat → Bool), Good n B L E →
  (E p = true → Good n (fun x y => B x y ∨ (x = p ∧ y = p + 1)) L E) ∧
  (E (p + 1) = true → Good n (fun x y => (sg p x < sg p y ∧ B (sg p x) (sg p y)) ∨ (x = p ∧ y = p + 1)) (L.map (sg p)) (fun j => E (sg p j))) ∧
  (E p = false → E (p + 1) = false → Good n (fun x y => B x y ∨ (x = p ∧ y = p + 1)) L E ∨ Good n (fun x y => (sg p x < sg p y ∧ B (sg p x) (sg p y)) ∨ (x = p ∧ y = p + 1)) (L.map (sg p)) (fun j => E (sg p j)))
 | [], E, h => ⟨fun _ => h, fun _ j hj => h _ (sg_lt hpn hj), fun _ _ => .inl h⟩
 | q :: r, E, ⟨h1, h2, h3, h4, h5⟩ => by
  obtain ⟨i1, i2, i3⟩ := good_two hpn r _ h5
  have ee : (fun j => (fun j => j == q || E j) (sg p j)) = fun j => j == sg p q || E (sg p j) := funext fun j => by
   show (sg p j == q || E (sg p j)) = _
   congr 1
   by_cases hj : sg p j = q
   ·rw [← hj, sg_sg]; simp
   ·rw [show (sg p j == q) = false by simpa using hj]
    symm
    have : j ≠ sg p q := fun e => hj (by rw [e, sg_sg])
    simpa using this
  rw [ee] at i2 i3
  have oldB : ∀ x, x < sg p q → sg p x < q ∧ B (sg p x) q → E (sg p x) = true := fun x _ hb => h3 _ hb.1 hb.2
  have oldB' : ∀ x, x < n → q < sg p x ∧ B q (sg p x) → E (sg p x) = false := fun x hx hb => h4 _ hb.1 (sg_lt hpn hx) hb.2
  refine ⟨fun hE => ?_, fun hE => ?_, fun hE1 hE2 => ?_⟩
  ·have hqp : q ≠ p := fun e => by rw [e, hE] at h2; cases h2
   refine ⟨h1, h2, fun x hx hb => ?_, fun x hx hxn hb => ?_, i1 (by simp [hE])⟩
   ·rcases hb with hb | ⟨rfl, -⟩
    ·exact h3 x hx hb
    ·exact hE
   ·rcases hb with hb | ⟨rfl, -⟩
    ·exact h4 x hx hxn hb
    ·exact absurd rfl hqp
  ·have hqp : q ≠ p + 1 := fun e => by rw [e, hE] at h2; cases h2
   refine ⟨sg_lt hpn h1, by show E (sg p (sg p q)) = false; rw [sg_sg]; exact h2, fun x hx hb => ?_, fun x hx hxn hb => ?_, i2 (by simp [hE])⟩
   ·have hb : (sg p x < sg p (sg p q) ∧ B (sg p x) (sg p (sg p q))) ∨ (x = p ∧ sg p q = p + 1) := hb
    rw [sg_sg] at hb
    rcases hb with hb | ⟨rfl, -⟩
    ·exact oldB x hx hb
    ·show E (sg _ _) = true
     rw [sg_l]; exact hE
   ·have hb : (sg p (sg p q) < sg p x ∧ B (sg p (sg p q)) (sg p x)) ∨ (sg p q = p ∧ x = p + 1) := hb
    rw [sg_sg] at hb
    rcases hb with hb | ⟨hb, -⟩
    ·exact oldB' x hxn hb
    ·exact absurd (by rw [← sg_sg p q, hb, sg_l]) hqp
  ·by_cases hq1 : q = p
   ·subst hq1
    refine .inl ⟨h1, h2, fun x hx hb => ?_, fun x hx hxn hb => ?_, i1 (by simp)⟩
    ·rcases hb with hb | ⟨rfl, e⟩
     ·exact h3 x hx hb
     ·omega
    ·rcases hb with hb | ⟨-, rfl⟩
     ·exact h4 x hx hxn hb
     ·exact hE2
   ·by_cases hq2 : q = p + 1
    ·subst hq2
     refine .inr ⟨sg_lt hpn h1, by show E (sg p (sg p (p + 1))) = false; rw [sg_sg]; exact h2, fun x hx hb => ?_, fun x hx hxn hb => ?_, i2 (by simp)⟩
     ·have hb : (sg p x < sg p (sg p (p + 1)) ∧ B (sg p x) (sg p (sg p (p + 1)))) ∨ (x = p ∧ sg p (p + 1) = p + 1) := hb
      rw [sg_sg] at hb
      rcases hb with hb | ⟨rfl, e⟩
      ·exact oldB x hx hb
      ·rw [sg_r] at e; omega
     ·have hb : (sg p (sg p (p + 1)) < sg p x ∧ B (sg p (sg p (p + 1))) (sg p x)) ∨ (sg p (p + 1) = p ∧ x = p + 1) := hb
      rw [sg_sg] at hb
      rcases hb with hb | ⟨-, rfl⟩
      ·exact oldB' x hxn hb
      ·show E (sg _ _) = false
       rw [sg_r]; exact hE1
    ·have hs : sg p q = q := sg_o hq1 hq2
     have f1 : (p == q) = false := by simpa using fun e => hq1 (Eq.symm e)
     have f2 : (p + 1 == q) = false := by simpa using fun e => hq2 (Eq.symm e)
     rcases i3 (by simp [hE1, f1]) (by simp [hE2, f2]) with i | i
     ·refine .inl ⟨h1, h2, fun x hx hb => ?_, fun x hx hxn hb => ?_, i⟩
      ·rcases hb with hb | ⟨-, e⟩
       ·exact h3 x hx hb
       ·exact absurd e hq2
      ·rcases hb with hb | ⟨e, -⟩
       ·exact h4 x hx hxn hb
       ·exact absurd e hq1
     ·refine .inr ⟨sg_lt hpn h1, by show E (sg p (sg p q)) = false; rw [sg_sg]; exact h2, fun x hx hb => ?_, fun x hx hxn hb => ?_, i⟩
      ·have hb : (sg p x < sg p (sg p q) ∧ B (sg p x) (sg p (sg p q))) ∨ (x = p ∧ sg p q = p + 1) := hb
       rw [sg_sg] at hb
       rcases hb with hb | ⟨-, e⟩
       ·exact oldB x hx hb
       ·exact absurd (hs.symm.trans e) hq2
      ·have hb : (sg p (sg p q) < sg p x ∧ B (sg p (sg p q)) (sg p x)) ∨ (sg p q = p ∧ x = p + 1) := hb
       rw [sg_sg] at hb
       rcases hb with hb | ⟨e, -⟩
       ·exact oldB' x hxn hb
       ·exact absurd (hs.symm.trans e) hq1
theorem list_soundF {n m : Nat} {own : Nat → Bool} {al : List AOp} {hs : List (Nat × Hint)} {F : Nat → AF} {M : Nat → AM} {V : Nat → AV} {R : Exit → AF → AM → Prop} {ft : Nat → Foot} (hT : Traced C n own ops al true hs F M V)
  (hft : ∀ k, k < ops.size → ft k = footOf (M k) (stripped (F k) (tmpsOf (al.getD k default).k)) (hintAt hs k) (al.getD k default).k)
  {B : Nat → Nat → Prop} (hd : ∀ p q, p < q → q < ops.size → depD (al.getD p default) (al.getD q default) = true → B p q)
  (hm : ∀ p q, p < q → q < ops.size → depM (al.getD p default) (al.getD q default) = true → B p q ∨ indepF (ft p) (ft q) = true) (hR : R .normal (F ops.size) (M ops.size)) :
  ∀ (L : List Nat) (E : Nat → Bool) (S1 : Nat → Prop) (γ1 : Gh) (w1 : World) (a1 : Act), (∀ j k, j < k → k < ops.size → B j k → E k = true → E j = true) → Good ops.size B L E →
   Ext w S γ w1 S1 γ1 → Wd C w0 S1 γ1 (GMF (M 0) al ft M E ops.size) w1 → FR n w1 S1 γ1 (GF (F 0) al V E ops.size) a1 →
   wpOps C.P ops (Ends C n m w0 w S γ R) L a1 w1
 | [], E, S1, γ1, w1, a1, _, all, hE, hW, hF => by
  have hGF : ∀ k, k ≤ ops.size → GF (F 0) al V E k = F k := by
   intro k
   induction k with
   | zero => intro _; rfl
   | succ k ih =>
    intro hk
    obtain ⟨_, _, _, _, _, _, _, _, hFk⟩ := hT.at_ k (by omega)
    rw [GF, all k (by omega), cond_true, ih (by omega), hFk]
  have hGM : ∀ k, k ≤ ops.size → GMF (M 0) al ft M E k = M k := by
   intro k
   induction k with
   | zero => intro _; rfl
   | succ k ih =>
    intro hk
    rw [GMF, all k (by omega), Bool.true_and]
    obtain ⟨_, _, _, _, _, hevk, _⟩ := hT.at_ k (by omega)
    cases he : eff (al.getD k default).k with
    | true =>
     rw [cond_true, ih (by omega)]
     have hl := evOpV_loc hevk
     rw [← hft k (by omega)] at hl
     cases hf : ft k with
     | wr b l =>
      rw [hf] at hl
      obtain ⟨-, nb, h1, h2, -⟩ := hl
      simp only
      rw [show (M (k + 1))[b]? = some nb by rw [h2]; exact List.getElem?_set_self h1]
      simp only
      rw [h2]
     | al nb =>
      rw [hf] at hl
      obtain ⟨h0, x, h1, -⟩ := hl
      simp only
      rw [show (M (k + 1))[nb]? = some x by rw [h1, h0, List.getElem?_append_right (Nat.le_refl _), Nat.sub_self]; rfl]
      simp only
      rw [h1]
     | top => rfl
     | none => rfl
     | rd l => rfl
    | false =>
     rw [cond_false, ih (by omega)]
     exact (evOpV_calm (by simpa [eff] using he) hevk).symm
  rw [hGM _ (Nat.le_refl _)] at hW
  rw [hGF _ (Nat.le_refl _)] at hF
  exact ⟨S1, γ1, _, _, hE.toM m, hW, hF, hR⟩
 | q :: r, E, S1, γ1, w1, a1, hcl, ⟨h1, h2, h3, h4, h5⟩, hE, hW, hF => by
  rw [wpOps_cons]
  exact any_stepB hT hft hd hm hcl h1 h2 h3 h4 (fun _ => rfl) hW hF fun a' w' S' γ' hE' hW' hF' =>
   list_soundF hT hft hd hm hR r _ S' γ' w' a' (fun j k hj hk hb hEk => by
    simp only [Bool.or_eq_true, beq_iff_eq] at hEk ⊢
    rcases hEk with hEk | hEk
    ·subst hEk; exact .inr (h3 j hj hb)
    ·exact .inr (hcl j k hj hk hb hEk)) h5 (hE.trans hE') hW' hF'
theorem wpOps_swap {P : Program} {ops' : Array Oper} {Q : Exit → Act → World → Prop} {p : Nat} (hat : ∀ j, ops'[j]? = ops[sg p j]?) (hg : ∀ (j : Nat) o g b, ops[j]? = some o → o.guard = some (g, b) → g ≠ p ∧ g ≠ p + 1) : ∀ (L : List Nat) (a : Act) (w : World), wpOps P ops' Q (L.map (sg p)) a w → wpOps P ops Q L a w
 | [], _, _, h => h
 | i :: r, a, w, h => by
  rw [List.map_cons, wpOps_cons] at h
  rw [wpOps_cons]
  have h := wpOp_mono (fun a w => wpOps_swap hat hg r a w) h
  unfold wpOp at h ⊢
  rw [hat, sg_sg] at h
  cases ho : ops[i]? with
  | none => rw [ho] at h; exact h
  | some o =>
   rw [ho] at h
   have hw : Region.wanted o (yielded ops' a.tmps) = Region.wanted o (yielded ops a.tmps) := by
    unfold Region.wanted
    cases hgd : o.guard with
    | none => rfl
    | some gb =>
     obtain ⟨g, b⟩ := gb
     obtain ⟨n1, n2⟩ := hg i o g b ho hgd
     show (yielded ops' a.tmps g == some b) = (yielded ops a.tmps g == some b)
     unfold yielded
     rw [hat, sg_o n1 n2]
   simp only [hw] at h
   exact h
theorem compOp_guard {P : Program} {own : Nat → Bool} {n : Nat} {o : Oper} {ao : AOp} {g : Nat} {b : Bool} (hco : compOp P own n ops o = some ao) (hg : o.guard = some (g, b)) : ∃ t, (ops[g]?).bind (·.dst) = some t ∧ ao.guard = some (t, b) := by
 unfold compOp at hco
 rw [hg] at hco
 split at hco
 ·cases hco
 ·split at hco
  ·rename_i h
   cases h
  ·rename_i j want hd h
   injection h with h
   injection h with h1 h2
   subst h1 h2
   split at hco
   ·rename_i t ht
    injection hco with hco
    subst hco
    exact ⟨t, ht, rfl⟩
   ·cases hco
  ·cases hco
theorem compOp_ops {P : Program} {own : Nat → Bool} {n : Nat} {o : Oper} {ops' : Array Oper} (h : ∀ g b, o.guard = some (g, b) → ops'[g]? = ops[g]?) : compOp P own n ops' o = compOp P own n ops o := by
 unfold compOp
 cases hg : o.guard with
 | some gb =>
  obtain ⟨g, b⟩ := gb
  have := h g b hg
  cases hd : o.dst with
  | none => dsimp only; rw [this]
  | some d =>
   dsimp only
   cases hb : Nat.blt d n
   ·rfl
   ·dsimp only; rw [this]
 | none =>
  cases hd : o.dst with
  | none => rfl
  | some d =>
   dsimp only
   cases hb : Nat.blt d n <;> rfl
theorem traced_of {n : Nat} {own : Nat → Bool} {al : List AOp} {hs : List (Nat × Hint)} {vc : VC} {pr : List Prop} {fs : List Foot} {f' : AF} {μ' : AM} (hl : al.length = ops.size) (hat : ∀ (j : Nat) o, ops[j]? = some o → ∃ ao, al[j]? = some ao ∧ compOp C.P own n ops o = some ao)
  (he : evOpsF (PureOK C) (RefOK C) al hs 0 [] [] [] f μ = some (vc, pr, fs, f', μ')) (hvc : VCs vc) (hpr : All pr) :
  ∃ F M V, F 0 = f ∧ M 0 = μ ∧ F ops.size = f' ∧ M ops.size = μ' ∧ Traced C n own ops al true hs F M V ∧ ∀ k, k < ops.size → footAt fs k = footOf (M k) (stripped (F k) (tmpsOf (al.getD k default).k)) (hintAt hs k) (al.getD k default).k := by
 obtain ⟨he0, hfs⟩ := evOpsF_evOps al 0 [] [] [] f μ he
 obtain ⟨-, F, M, V, h1, h2, h3, h4, h5⟩ := evOps_trace al 0 [] [] f μ vc pr f' μ' he0 hvc hpr
 have hfs := hfs F M V h1 h2 fun j ao hao => by
  obtain ⟨vcj, prj, k1, k2, k3, k4⟩ := h5 j ao hao
  exact ⟨vcj, prj, k1, k4⟩
 rw [Nat.zero_add] at h3 h4
 refine ⟨F, M, V, h1, h2, by rw [← hl]; exact h3, by rw [← hl]; exact h4, ⟨hl, fun j hj => ?_⟩, fun k hk => ?_⟩
 ·have ho : ops[j]? = some ops[j] := by simp [hj]
  obtain ⟨ao, hao, hco⟩ := hat j ops[j] ho
  obtain ⟨vcj, prj, k1, k2, k3, k4⟩ := h5 j ao hao
  rw [Nat.zero_add] at k1 k4
  have hg : al.getD j default = ao := by rw [List.getD, hao]; rfl
  exact ⟨_, vcj, prj, ho, by rw [hg]; exact hco, by rw [hg]; exact k1, k2, k3, by rw [hg]; exact k4⟩
 ·rw [footAt_getD, hfs, List.nil_append, List.getD, List.getElem?_map, List.getElem?_range (by omega)]
  simp only [Option.map_some, Option.getD_some, Nat.zero_add]
theorem start_GMF {M : Nat → AM} {al : List AOp} {ft : Nat → Foot} : ∀ k, GMF (M 0) al ft M (fun _ => false) k = M 0
 | 0 => rfl
 | k + 1 => by rw [GMF, Bool.false_and, cond_false, start_GMF k]
theorem start_GF {F : Nat → AF} {al : List AOp} {V : Nat → AV} : ∀ k, GF (F 0) al V (fun _ => false) k = F 0
 | 0 => rfl
 | k + 1 => by rw [GF, cond_false, start_GF k]
theorem start_good {n : Nat} {B : Nat → Nat → Prop} : ∀ (L : List Nat) {E E' : Nat → Bool}, (∀ j, j < n → E j = E' j) → Good n B L E → Good n B L E'
 | [], _, _, h, hg => fun j hj => (h j hj).symm.trans (hg j hj)
 | q :: r, _, _, h, ⟨h1, h2, h3, h4, h5⟩ => ⟨h1, (h q h1).symm.trans h2, fun p hp hb => (h p (by omega)).symm.trans (h3 p hp hb), fun p hp hps hb => (h p hps).symm.trans (h4 p hp hps hb),
  start_good r (fun j hj => by rw [h j hj]) h5⟩
theorem aw_regionS0 {n m id p : Nat} {own : Nat → Bool} {al : List AOp} {hs hs2 : List (Nat × Hint)} {vc vc2 : VC} {pr pr2 : List Prop} {fs fs2 : List Foot} {f' f2 : AF} {μ' μ2 : AM} {R : Exit → AF → AM → Prop} (hc : compOps C.P own n ops ops.toList = some al) (hd : okData ops.toList al = true) (hsw : swapOk p al = true)
  (he : evOpsF (PureOK C) (RefOK C) al hs 0 [] [] [] f μ = some (vc, pr, fs, f', μ')) (hvc : VCs vc) (hpr : All pr) (hfree : freeOk fs (freeA p (freePairs ops.toList al)) = true) (hR : R .normal f' μ')
  (he2 : evOpsF (PureOK C) (RefOK C) (swapL p al) hs2 0 [] [] [] f μ = some (vc2, pr2, fs2, f2, μ2)) (hvc2 : VCs vc2) (hpr2 : All pr2) (hfree2 : freeOk fs2 (freeB p (freePairs ops.toList al)) = true) (hR2 : R .normal f2 μ2) : AW C n m (.region id ops true) R f μ := by
 intro w0 S γ w a hW hF
 obtain ⟨hl, hat⟩ := compOps_at hc
 replace hl : al.length = ops.size := hl.trans (Array.length_toList)
 simp only [okData, Bool.and_eq_true] at hd
 simp only [swapOk, Bool.and_eq_true] at hsw
 have hpn : p + 1 < al.length := Nat.blt_eq.mp hsw.1
 have hdep : ∀ p q, p < q → q < ops.size → depD (al.getD p default) (al.getD q default) = true → bd ops p q := fun p q hpq hq hdp => by
  have h6 := List.all_eq_true.mp hd.2 q (List.mem_range.mpr (by omega))
  have h7 := List.all_eq_true.mp h6 p (List.mem_range.mpr hpq)
  rw [hdp] at h7
  show ((befs ops.toList []).getD q 0).testBit p = true
  simpa using h7
 have hgd : ∀ (j : Nat) o g b, ops[j]? = some o → o.guard = some (g, b) → g ≠ p ∧ g ≠ p + 1 := fun j o g b ho hg => by
  obtain ⟨ao, hao, hco⟩ := hat j o (by rw [Array.getElem?_toList]; exact ho)
  have h6 := List.all_eq_true.mp hsw.2 ao (List.mem_of_getElem? hao)
  have key : ∀ k, g = k → k < al.length → ∃ t, ao.guard = some (t, b) ∧ (al.getD k default).dst = some t := fun k hk hkl => by
   subst hk
   have hok : ops[g]? = some ops[g] := by simp [← hl, hkl]
   obtain ⟨ak, hak, hck⟩ := hat g ops[g] (by rw [Array.getElem?_toList]; exact hok)
   have e : al.getD g default = ak := by rw [List.getD, hak]; rfl
   rw [e]
   obtain ⟨_, _, hdst, -⟩ := compOp_inv hck
   obtain ⟨t, ht, hgt⟩ := compOp_guard hco hg
   rw [hok] at ht
   exact ⟨t, hgt, by first | exact hdst.symm.trans ht | exact hdst.trans ht | (rw [hdst]; exact ht)⟩
  refine ⟨fun e => ?_, fun e => ?_⟩
  ·obtain ⟨t, h7, h8⟩ := key p e (by omega)
   rw [h7] at h6
   simp only [h8, Bool.and_eq_true] at h6
   simp at h6
  ·obtain ⟨t, h7, h8⟩ := key (p + 1) e (by omega)
   rw [h7] at h6
   simp only [h8, Bool.and_eq_true] at h6
   simp at h6
 obtain ⟨hW1, hE1⟩ := hW.drew
 refine wp_region_draw fun t => ?_
 simp only [Region.schedule, C.mixed, Bool.true_or, if_true]
 have hpath := lin_path (ops := ops) ops.size t (Array.replicate ops.size false) (by simp) (Nat.le_trans (List.countP_le_length) (by simp))
 have hgood := start_good _ (E' := fun _ => false) (fun j hj => by simp [Array.getD, hj]) (path_good hd.1 _ _ (by simp) (fun j o ho hj => by
  have hjs : j < ops.size := by
   apply Classical.byContradiction
   intro hn
   rw [Array.getElem?_eq_none (by omega)] at ho
   cases ho
  simp [Array.getD, hjs] at hj) hpath)
 rcases (good_two (p := p) (by omega) _ _ hgood).2.2 rfl rfl with hg | hg
 ·obtain ⟨F, M, V, h1, h2, h3, h4, hT, hft⟩ := traced_of hl (fun j o ho => hat j o (by rw [Array.getElem?_toList]; exact ho)) he hvc hpr
  refine list_soundF hT hft (fun x y hx hy hdp => .inl (hdep x y hx hy hdp)) (fun x y hx hy hdp => ?_) (by rw [h3, h4]; exact hR) _ _ S γ w.drew a (fun _ _ _ _ _ h => absurd (show false = true from h) Bool.false_ne_true) hg hE1 (by rw [start_GMF, h2]; exact hW1) (by rw [start_GF, h1]; exact hF.drew hE1)
  by_cases hxy : x = p ∧ y = p + 1
  ·exact .inl (.inr hxy)
  ·cases hb : ((befs ops.toList []).getD y 0).testBit x with
   | true => exact .inl (.inl hb)
   | false => exact .inr (freeOk_mem hfree x y (freeA_mem hxy (freePairs_mem hx (by omega) hdp hb)))
 ·have hops : ∀ j, (swapL p ops.toList).toArray[j]? = ops[sg p j]? := fun j => by
   rw [List.getElem?_toArray, swapL_at p _ j (by rw [Array.length_toList]; omega), Array.getElem?_toList]
  have hal : ∀ j, (swapL p al).getD j default = al.getD (sg p j) default := fun j => by
   rw [List.getD, swapL_at p al j hpn, List.getD]
  have hsz : (swapL p ops.toList).toArray.size = ops.size := by rw [List.size_toArray, swapL_len, Array.length_toList]
  refine wpOps_swap hops hgd _ _ _ ?_
  obtain ⟨F, M, V, h1, h2, h3, h4, hT, hft⟩ := traced_of (C := C) (ops := (swapL p ops.toList).toArray) (n := n) (own := own) (by rw [swapL_len, hl, hsz]) (fun j o ho => by
   rw [hops] at ho
   obtain ⟨ao, hao, hco⟩ := hat _ o (by rw [Array.getElem?_toList]; exact ho)
   refine ⟨ao, by rw [swapL_at p al j hpn]; exact hao, ?_⟩
   rw [← hco]
   exact compOp_ops fun g b hg => by
    obtain ⟨n1, n2⟩ := hgd _ o g b ho hg
    rw [hops, sg_o n1 n2]) he2 hvc2 hpr2
  rw [hsz] at hft h3 h4
  refine list_soundF hT (by rw [hsz]; exact hft) (fun x y hx hy hdp => ?_) (fun x y hx hy hdp => ?_) (by rw [hsz, h3, h4]; exact hR2) _ _ S γ w.drew a (fun _ _ _ _ _ h => absurd (show false = true from h) Bool.false_ne_true) (by rw [hsz]; exact hg) hE1 (by rw [start_GMF, h2]; exact hW1) (by rw [start_GF, h1]; exact hF.drew hE1)
  ·rw [hsz] at hy
   rw [hal, hal] at hdp
   by_cases hxy : x = p ∧ y = p + 1
   ·exact .inr hxy
   ·have hlt := sg_mono hx hxy
    exact .inl ⟨hlt, hdep _ _ hlt (sg_lt (by omega) hy) hdp⟩
  ·rw [hsz] at hy
   rw [hal, hal] at hdp
   by_cases hxy : x = p ∧ y = p + 1
   ·exact .inl (.inr hxy)
   ·have hlt := sg_mono hx hxy
    cases hb : ((befs ops.toList []).getD (sg p y) 0).testBit (sg p x) with
    | true => exact .inl (.inl ⟨hlt, hb⟩)
    | false =>
     have hlt2 : sg p y < al.length := by rw [hl]; exact sg_lt (by omega) hy
     have hn : ¬ (sg p x = p ∧ sg p y = p + 1) := fun ⟨e1, e2⟩ => by
      have e3 := sg_sg p x
      have e4 := sg_sg p y
      rw [e1, sg_l] at e3
      rw [e2, sg_r] at e4
      omega
     have := freeOk_mem hfree2 _ _ (freeB_mem hn (freePairs_mem hlt hlt2 hdp hb))
     rw [sg_sg, sg_sg] at this
     exact .inr this
variable {own : Nat → Bool} {n m : Nat} {R : Exit → AF → AM → Prop}
theorem aw_rsS (p : Nat) {al : List AOp} {free : List (Nat × Nat)} (hs hs2 : List (Nat × Hint)) {y : ACode} (hsw : swapOk p al = true)
  (h1 : AfterF (freeA p free) (fun f μ => Aw C own n m y R f μ) (evOpsF (PureOK C) (RefOK C) al hs 0 [] [] [] f μ))
  (h2 : AfterF (freeB p free) (fun f μ => Aw C own n m y R f μ) (evOpsF (PureOK C) (RefOK C) (swapL p al) hs2 0 [] [] [] f μ)) : Aw C own n m (.seq (.regionF al free) y) R f μ := by
 refine aw_seq ?_
 intro c hc
 obtain ⟨id, ops, rfl, g1, g2, rfl⟩ := comp_regionF hc
 unfold AfterF at h1 h2
 split at h1
 ·rename_i he
  split at h2
  ·rename_i he2
   exact aw_regionS0 g1 g2 hsw he h1.1 h1.2.1 h1.2.2.1 h1.2.2.2 he2 h2.1 h2.2.1 h2.2.2.1 h2.2.2.2
  ·exact h2.elim
 ·exact h1.elim
end
end
end Pur
end Go.Proofs.YteokbngllldmdaaGreatDoor
