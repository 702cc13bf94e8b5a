/- Several texts in one: EgR EgR2 HeldL. -/
import Derived.Test.YtbijhlgdilkopaaGreatDoorBa
import Derived.Orders
import Derived.Deep.RegionHeld3
set_option linter.unusedVariables false
set_option linter.unusedSimpArgs false
/- A region that draws its order, by an invariant: each operation is stepped once, whatever came before it. -/
set_option linter.unusedVariables false
namespace Bk
open Go Go.RowKit
/-- Each operation waits for earlier ones only; each but the last is waited for by a later one; none is guarded. -/
def chainB (ops : Array Oper) (n : Nat) : Bool :=
  ops.size == n + 1 && (List.range (n + 1)).all (fun i => (ops[i]?).any fun o => o.guard.isNone && o.after.all fun e => !Region.binds .any e || decide (e.on < i)) &&
    (List.range n).all (fun i => (List.range (n + 1)).any fun j => decide (i < j) && (ops[j]?).any fun o => o.after.any fun e => Region.binds .any e && e.on == i)
theorem chain_facts {ops : Array Oper} {n : Nat} (h : chainB ops n = true) : ops.size = n + 1 ∧ (∀ i o, ops[i]? = some o → o.guard = none ∧ ∀ e ∈ o.after, Region.binds .any e = true → e.on < i) ∧ ∀ i, i < n → ∃ j o, i < j ∧ j ≤ n ∧ ops[j]? = some o ∧ ∃ e ∈ o.after, Region.binds .any e = true ∧ e.on = i := by
  unfold chainB at h
  simp only [Bool.and_eq_true, beq_iff_eq, List.all_eq_true, List.mem_range, List.any_eq_true, decide_eq_true_eq] at h
  obtain ⟨⟨h1, h2⟩, h3⟩ := h
  refine ⟨h1, fun i o ho => ?_, fun i hi => ?_⟩
  · have hi : i < n + 1 := by have := (Array.getElem?_eq_some_iff.1 ho).1; omega
    have := h2 i hi
    rw [ho] at this
    simp only [Option.any_some, Bool.and_eq_true, Option.isNone_iff_eq_none, Array.all_eq_true_iff_forall_mem, Bool.or_eq_true, Bool.not_eq_true', decide_eq_true_eq] at this
    exact ⟨this.1, fun e he hb => (this.2 e he).resolve_left (by rw [hb]; simp)⟩
  · obtain ⟨j, hj, hij, hh⟩ := h3 i hi
    cases ho : ops[j]? with
    | none => rw [ho] at hh; cases hh
    | some o =>
      rw [ho] at hh
      simp only [Option.any_some, Array.any_eq_true', Bool.and_eq_true, beq_iff_eq] at hh
      obtain ⟨e, he, hb, hon⟩ := hh
      exact ⟨j, o, hij, by omega, ho, e, he, hb, hon⟩
def left (l : Array Bool) (n : Nat) : Nat := ((List.range (n + 1)).filter fun i => !l.getD i true).length
theorem left_set {l : Array Bool} {n i : Nat} (hl : l.size = n + 1) (hi : i ≤ n) (h : l.getD i true = false) : left (l.setIfInBounds i true) n + 1 = left l n := by
  unfold left
  have key : ∀ m : List Nat, m.Nodup → i ∈ m → (∀ j ∈ m, j ≤ n) → (m.filter fun j => !(l.setIfInBounds i true).getD j true).length + 1 = (m.filter fun j => !l.getD j true).length := by
    intro m
    induction m with
    | nil => intro _ h; cases h
    | cons a m ih =>
      intro hnd hm hb
      obtain ⟨ha, hnd⟩ := List.nodup_cons.1 hnd
      by_cases e : a = i
      · subst e
        have e1 : (l.setIfInBounds a true).getD a true = true := by
          simp only [Array.getD_eq_getD_getElem?, Array.getElem?_setIfInBounds]
          rw [if_pos trivial, if_pos (by omega)]
          rfl
        have e2 : (m.filter fun j => !(l.setIfInBounds a true).getD j true) = m.filter fun j => !l.getD j true := by
          apply List.filter_congr
          intro j hj
          have : j ≠ a := fun e => ha (e ▸ hj)
          simp [Array.getD_eq_getD_getElem?, Ne.symm this]
        rw [List.filter_cons, List.filter_cons, e1, h, e2]
        simp
      · have hm' : i ∈ m := (List.mem_cons.1 hm).resolve_left (Ne.symm e)
        have e1 : (l.setIfInBounds i true).getD a true = l.getD a true := by
          simp [Array.getD_eq_getD_getElem?, Ne.symm e]
        have := ih hnd hm' fun j hj => hb j (List.mem_cons_of_mem _ hj)
        rw [List.filter_cons, List.filter_cons, e1]
        split
        · simp only [List.length_cons]; omega
        · omega
  exact key _ List.nodup_range (List.mem_range.2 (by omega)) fun j hj => by have := List.mem_range.1 hj; omega
section
variable {P : Program} {Q : Exit → Act → World → Prop} {n : Nat} {ops : Array Oper}
theorem wpAny_inv (hc : chainB ops n = true) (I : Array Bool → Act → World → Prop)
    (step : ∀ (l : Array Bool) (a : Act) (w : World) (i : Nat) (o : Oper), i < n → ops[i]? = some o → I l a w → l.getD i true = false → (∀ e ∈ o.after, Region.binds .any e = true → l.getD e.on false = true) → o.wp P a w (fun a' w' => I (l.setIfInBounds i true) a' w') Q)
    (last : ∀ (l : Array Bool) (a : Act) (w : World) (o : Oper), ops[n]? = some o → I l a w → (∀ i, i < n → l.getD i false = true) → o.wp P a w (fun a' w' => Q .normal a' w') Q) :
    ∀ k (l : Array Bool) (a : Act) (w : World), l.size = n + 1 → left l n = k → (∀ i o, ops[i]? = some o → l.getD i true = true → ∀ e ∈ o.after, Region.binds .any e = true → l.getD e.on false = true) → (l.getD n true = false → I l a w) → (l.getD n true = true → (∀ i, i ≤ n → l.getD i true = true) ∧ Q .normal a w) → wpAny P .any ops Q k l a w := by
  obtain ⟨hs, hdep, hsuc⟩ := chain_facts hc
  have noready : ∀ l : Array Bool, l.size = n + 1 → Region.ready .any ops l = [] → ∀ i, i ≤ n → l.getD i true = true := by
    intro l hl hr i
    induction i using Nat.strongRecOn with
    | ind i ih =>
      intro hi
      cases h : l.getD i true with
      | true => rfl
      | false =>
        have ho : ops[i]? = some (ops[i]'(by omega)) := Array.getElem?_eq_getElem (by omega)
        have hmem : i ∈ Region.ready .any ops l := by
          unfold Region.ready
          rw [List.mem_filter]
          refine ⟨List.mem_range.2 (by omega), ?_⟩
          rw [h, ho]
          simp only [Bool.not_false, Option.map_some, Option.getD_some, Bool.true_and, Array.all_eq_true_iff_forall_mem]
          intro e he
          cases hb : Region.binds .any e with
          | false => simp
          | true =>
            have := (hdep i _ ho).2 e he hb
            have h2 := ih e.on this (by omega)
            have h3 : e.on < l.size := by omega
            simp [Array.getD_eq_getD_getElem?, Array.getElem?_eq_getElem h3] at h2 ⊢
            exact h2
        rw [hr] at hmem; cases hmem
  have ready_iff : ∀ l : Array Bool, ∀ i ∈ Region.ready .any ops l, i ≤ n ∧ l.getD i true = false ∧ ∃ o, ops[i]? = some o ∧ ∀ e ∈ o.after, Region.binds .any e = true → l.getD e.on false = true := by
    intro l i hi
    unfold Region.ready at hi
    rw [List.mem_filter] at hi
    obtain ⟨h1, h2⟩ := hi
    have hi : i < ops.size := List.mem_range.1 h1
    have ho : ops[i]? = some (ops[i]'hi) := Array.getElem?_eq_getElem hi
    rw [ho] at h2
    simp only [Option.map_some, Option.getD_some, Bool.and_eq_true, Bool.not_eq_true', Array.all_eq_true_iff_forall_mem, Bool.or_eq_true] at h2
    exact ⟨by omega, h2.1, _, ho, fun e he hb => (h2.2 e he).resolve_left (by rw [hb]; simp)⟩
  intro k
  induction k with
  | zero =>
    intro l a w hl hk hcl hI hQ
    have hall : ∀ i, i ≤ n → l.getD i true = true := fun i hi => by
      cases h : l.getD i true with
      | true => rfl
      | false =>
        have : i ∈ (List.range (n + 1)).filter fun i => !l.getD i true := by rw [List.mem_filter]; exact ⟨List.mem_range.2 (by omega), by rw [h]; rfl⟩
        unfold left at hk
        rw [List.eq_nil_of_length_eq_zero hk] at this; cases this
    refine ⟨?_, (hQ (hall n (Nat.le_refl _))).2⟩
    cases hr : Region.ready .any ops l with
    | nil => rfl
    | cons i r =>
      obtain ⟨h1, h2, _⟩ := ready_iff l i (by rw [hr]; simp)
      rw [hall i h1] at h2; cases h2
  | succ k ih =>
    intro l a w hl hk hcl hI hQ
    refine ⟨fun hr => (hQ (noready l hl hr n (Nat.le_refl _))).2, fun i hi => ?_⟩
    obtain ⟨h1, h2, o, ho, h3⟩ := ready_iff l i hi
    have hn : l.getD n true = false := by
      cases h : l.getD n true with
      | false => rfl
      | true => rw [(hQ h).1 i h1] at h2; cases h2
    have hg := (hdep i o ho).1
    have hset : (l.setIfInBounds i true).size = n + 1 := by simpa using hl
    have hk' : left (l.setIfInBounds i true) n = k := by have := left_set hl h1 h2; omega
    have hgo : ∀ j, j ≤ n → (l.setIfInBounds i true).getD j true = (if i = j then true else l.getD j true) := fun j hj => by
      simp only [Array.getD_eq_getD_getElem?, Array.getElem?_setIfInBounds]
      split
      · rename_i e; subst e; rw [if_pos (by omega)]; rfl
      · rfl
    have hgo' : ∀ j, l.getD j false = true → (l.setIfInBounds i true).getD j false = true := fun j hj => by
      simp only [Array.getD_eq_getD_getElem?, Array.getElem?_setIfInBounds] at hj ⊢
      split
      · rename_i e; subst e; rw [if_pos (by omega)]; rfl
      · exact hj
    have hcl' : ∀ j o', ops[j]? = some o' → (l.setIfInBounds i true).getD j true = true → ∀ e ∈ o'.after, Region.binds .any e = true → (l.setIfInBounds i true).getD e.on false = true := fun j o' ho' hj e he hb => by
      have hjn : j ≤ n := by have := (Array.getElem?_eq_some_iff.1 ho').1; omega
      rw [hgo j hjn] at hj
      split at hj
      · rename_i e'; subst e'
        rw [ho] at ho'; injection ho' with ho'; subst ho'
        exact hgo' _ (h3 e he hb)
      · exact hgo' _ (hcl j o' ho' hj e he hb)
    unfold wpOp
    rw [ho]
    simp only [Region.wanted, hg, if_true]
    left
    by_cases hin : i = n
    · subst hin
      have hall : ∀ j, j < i → l.getD j false = true := by
        have down : ∀ d j, j + d + 1 = i → l.getD j false = true := by
          intro d
          induction d using Nat.strongRecOn with
          | ind d ihd =>
            intro j hj
            obtain ⟨m, o', hjm, hmi, ho', e, he, hb, hon⟩ := hsuc j (by omega)
            rcases Nat.lt_or_ge m i with hlt | hge
            · have h5 := ihd (i - m - 1) (by omega) m (by omega)
              have h6 : l.getD m true = true := by
                have hms : m < l.size := by omega
                simp [Array.getD_eq_getD_getElem?, Array.getElem?_eq_getElem hms] at h5 ⊢
                exact h5
              have := hcl m o' ho' h6 e he hb
              rwa [hon] at this
            · obtain rfl : m = i := by omega
              rw [ho] at ho'; injection ho' with ho'; subst ho'
              have := h3 e he hb
              rwa [hon] at this
        exact fun j hj => down (i - j - 1) j (by omega)
      refine Oper.wp_mono (fun a' w' hq => ?_) (last l a w o ho (hI hn) hall)
      refine ih _ a' w' hset hk' hcl' (fun h => ?_) (fun _ => ⟨fun j hj => ?_, hq⟩)
      · rw [hgo i (Nat.le_refl _), if_pos rfl] at h; cases h
      · rw [hgo j hj]
        split
        · rfl
        · rename_i hne
          have h5 := hall j (by omega)
          have hms : j < l.size := by omega
          simp [Array.getD_eq_getD_getElem?, Array.getElem?_eq_getElem hms] at h5 ⊢
          exact h5
    · refine Oper.wp_mono (fun a' w' hI' => ?_) (step l a w i o (by omega) ho (hI hn) h2 h3)
      refine ih _ a' w' hset hk' hcl' (fun _ => hI') (fun h => ?_)
      rw [hgo n (Nat.le_refl _), if_neg hin, hn] at h; cases h
theorem wp_region_inv {id : Nat} {a : Act} {w : World} (hm : P.follows .mixedOrders = true) (hc : chainB ops n = true) (I : Array Bool → Act → World → Prop) (h0 : I (Array.replicate (n + 1) false) a w.drew)
    (step : ∀ (l : Array Bool) (a : Act) (w : World) (i : Nat) (o : Oper), i < n → ops[i]? = some o → I l a w → l.getD i true = false → (∀ e ∈ o.after, Region.binds .any e = true → l.getD e.on false = true) → o.wp P a w (fun a' w' => I (l.setIfInBounds i true) a' w') Q)
    (last : ∀ (l : Array Bool) (a : Act) (w : World) (o : Oper), ops[n]? = some o → I l a w → (∀ i, i < n → l.getD i false = true) → o.wp P a w (fun a' w' => Q .normal a' w') Q) : (Code.region id ops true).wp P Q a w := by
  obtain ⟨hs, _, _⟩ := chain_facts hc
  refine wp_region_any hm ?_
  rw [hs]
  have hrep : ∀ i, i ≤ n → (Array.replicate (n + 1) false).getD i true = false := fun i hi => by simp only [Array.getD_eq_getD_getElem?, Array.getElem?_replicate]; rw [if_pos (by omega)]; rfl
  refine wpAny_inv hc I step last (n + 1) _ a _ (by simp) ?_ (fun i o ho hi => ?_) (fun _ => h0) (fun h => by rw [hrep n (Nat.le_refl _)] at h; cases h)
  · unfold left
    rw [List.filter_eq_self.2 fun i hi => by rw [hrep i (by have := List.mem_range.1 hi; omega)]; rfl]
    simp
  · rw [hrep i (by have := (Array.getElem?_eq_some_iff.1 ho).1; omega)] at hi; cases hi
end
end Bk

/- A region that draws its order, by a predicate for each operation's value. -/
set_option linter.unusedVariables false
namespace Bk
open Go Go.RowKit
def isDst (ops : Array Oper) (n t : Nat) : Bool := (List.range n).any fun i => (ops[i]?).any fun o => o.dst == some t
/-- Each operation but the last yields into a slot of its own. -/
def dstB (ops : Array Oper) (n size : Nat) : Bool := (List.range n).all fun i => (ops[i]?).any fun o => o.dst.any fun t => decide (t < size) && (List.range n).all fun j => i == j || (ops[j]?).any fun o' => !(o'.dst == some t)
def depB (o : Oper) (j : Nat) : Bool := o.after.any fun e => Region.binds .any e && e.on == j
/-- What an operation finds when its turn comes. -/
structure Got (ops : Array Oper) (n : Nat) (Pr : Nat → Value → World → Prop) (W0 : World) (a0 : Act) (dep : Nat → Bool) (a : Act) (w : World) : Prop where
  b : Below W0.heap.size W0 w
  d : a.defers = a0.defers
  s : a.tmps.size = a0.tmps.size
  o : ∀ t, isDst ops n t = false → a.tmps[t]? = a0.tmps[t]?
  p : ∀ j t, j < n → (ops[j]?).bind (·.dst) = some t → dep j = true → ∃ v, a.tmps[t]? = some v ∧ Pr j v w
section
variable {P : Program} {Q : Exit → Act → World → Prop} {n : Nat} {ops : Array Oper} {Pr : Nat → Value → World → Prop}
theorem wp_region_pred {id : Nat} {a0 : Act} {w : World} (hm : P.follows .mixedOrders = true) (hc : chainB ops n = true) (hd : dstB ops n a0.tmps.size = true) (Pr : Nat → Value → World → Prop)
    (hPr : ∀ i v w w', Pr i v w → Below w.heap.size w w' → Pr i v w')
    (step : ∀ (i : Nat) (o : Oper), i < n → ops[i]? = some o → ∀ (a : Act) (w' : World), Got ops n Pr w a0 (depB o) a w' → o.wp P a w' (fun a' w'' => ∃ v, a' = a.put o.dst v ∧ Pr i v w'' ∧ Below w'.heap.size w' w'') Q)
    (last : ∀ (o : Oper), ops[n]? = some o → ∀ (a : Act) (w' : World), Got ops n Pr w a0 (fun _ => true) a w' → o.wp P a w' (fun a' w'' => Q .normal a' w'') Q) : (Code.region id ops true).wp P Q a0 w := by
  obtain ⟨hs, _, _⟩ := chain_facts hc
  have hdd : ∀ i o, i < n → ops[i]? = some o → ∃ t, o.dst = some t ∧ t < a0.tmps.size ∧ ∀ j o', j < n → ops[j]? = some o' → o'.dst = some t → j = i := fun i o hi ho => by
    unfold dstB at hd
    rw [List.all_eq_true] at hd
    have := hd i (List.mem_range.2 hi)
    rw [ho] at this
    cases hdst : o.dst with
    | none => rw [Option.any_some, hdst] at this; cases this
    | some t =>
      simp only [Option.any_some, hdst, Bool.and_eq_true, decide_eq_true_eq, List.all_eq_true, List.mem_range, Bool.or_eq_true, beq_iff_eq] at this
      refine ⟨t, rfl, this.1, fun j o' hj ho' hdt => ?_⟩
      rcases this.2 j hj with h | h
      · exact h.symm
      · rw [ho'] at h; simp [hdt] at h
  refine wp_region_inv hm hc (fun l a w' => Got ops n Pr w a0 (fun j => l.getD j false) a w') ?_ ?_ ?_
  · refine ⟨(Below.refl _ _).drew, rfl, rfl, fun t _ => rfl, fun j t hj ht hl => ?_⟩
    simp only [Array.getD_eq_getD_getElem?, Array.getElem?_replicate] at hl
    rw [if_pos (by omega)] at hl; cases hl
  · intro l a w' i o hi ho hI hli hdep
    have hg : Got ops n Pr w a0 (depB o) a w' := ⟨hI.b, hI.d, hI.s, hI.o, fun j t hj ht hd => hI.p j t hj ht (by
      unfold depB at hd
      rw [Array.any_eq_true'] at hd
      obtain ⟨e, he, hb⟩ := hd
      simp only [Bool.and_eq_true, beq_iff_eq] at hb
      rw [← hb.2]; exact hdep e he hb.1)⟩
    refine Oper.wp_mono (fun a' w'' hh => ?_) (step i o hi ho a w' hg)
    obtain ⟨v, rfl, hv, hb⟩ := hh
    obtain ⟨t, hdst, htl, huniq⟩ := hdd i o hi ho
    have htmps : (a.put o.dst v).tmps = a.tmps.setIfInBounds t v := by rw [hdst]; rfl
    have hdef : (a.put o.dst v).defers = a.defers := by rw [hdst]; rfl
    refine ⟨hI.b.next hb, hdef.trans hI.d, by rw [htmps]; simpa using hI.s, fun t' ht' => ?_, fun j t' hj ht' hl => ?_⟩
    · rw [htmps, Array.getElem?_setIfInBounds, if_neg (fun e => ?_)]
      · exact hI.o t' ht'
      · subst e
        unfold isDst at ht'
        have : ((List.range n).any fun i => (ops[i]?).any fun o => o.dst == some t) = true := by
          rw [List.any_eq_true]
          exact ⟨i, List.mem_range.2 hi, by rw [ho]; simp [hdst]⟩
        rw [ht'] at this; cases this
    · cases hoj : ops[j]? with
      | none => rw [hoj] at ht'; cases ht'
      | some o' =>
        rw [hoj] at ht'
        have ht'' : o'.dst = some t' := ht'
        by_cases e : j = i
        · subst e
          rw [ho] at hoj; injection hoj with hoj; subst hoj
          rw [hdst] at ht''; injection ht'' with ht''; subst ht''
          refine ⟨v, ?_, hv⟩
          rw [htmps, Array.getElem?_setIfInBounds, if_pos rfl, if_pos (by rw [hI.s]; exact htl)]
        · have hne : t ≠ t' := fun e2 => by subst e2; exact e (huniq j o' hj hoj ht'')
          have hl' : l.getD j false = true := by
            simp only [Array.getD_eq_getD_getElem?, Array.getElem?_setIfInBounds] at hl ⊢
            rwa [if_neg (Ne.symm e)] at hl
          obtain ⟨v', h1, h2⟩ := hI.p j t' hj (by rw [hoj]; exact ht'') hl'
          exact ⟨v', by rw [htmps, Array.getElem?_setIfInBounds, if_neg hne]; exact h1, hPr _ _ _ _ h2 hb⟩
  · intro l a w' o ho hI hall
    exact last o ho a w' ⟨hI.b, hI.d, hI.s, hI.o, fun j t hj ht _ => hI.p j t hj ht (hall j hj)⟩
end
/-! Operations at an act that is a letter. -/
section
variable {P : Program} {o : Oper} {a : Act} {w : World} {K : Act → World → Prop} {Q : Exit → Act → World → Prop}
theorem wp_moveP (x : Operand) (ho : o.op = .move x) (h : K (a.put o.dst (a.eval x)) w) : o.wp P a w K Q := by
  unfold Oper.wp execOp
  simp only [ho, Sem.run_pure]
  exact h
theorem eval_tmp {t : Nat} {v : Value} (h : a.tmps[t]? = some v) : a.eval (.tmp t) = v := by
  simp [Act.eval, h]
end
end Bk

/- A region that draws its order and whose last operation may break the condition that the others keep: a load may be taken first although the last operation stores to its cell. -/
set_option linter.unusedVariables false
namespace Bk
open Go
section
variable {P : Program} {ops : Array Oper} {Q : Exit → Act → World → Prop} {md : Region.Mode} {S : World → Prop} {l : Nat}
/-- Whatever order is picked, and S holds behind every operation that is not the last one. -/
def wpAnyL (P : Program) (md : Region.Mode) (ops : Array Oper) (Q : Exit → Act → World → Prop) (S : World → Prop) (l : Nat) : Nat → Array Bool → Act → World → Prop
  | 0, listed, a, w => Region.ready md ops listed = [] ∧ Q .normal a w
  | fuel + 1, listed, a, w =>
    (Region.ready md ops listed = [] → Q .normal a w) ∧
    ∀ i ∈ Region.ready md ops listed, wpOp P ops Q i (fun a' w' => (i = l ∨ S w') ∧ wpAnyL P md ops Q S l fuel (listed.setIfInBounds i true) a' w') a w
theorem wpAny_of_heldL : ∀ (fuel : Nat) (listed : Array Bool) (a : Act) (w : World), wpAnyL P md ops Q S l fuel listed a w → wpAny P md ops Q fuel listed a w
  | 0, _, _, _, h => h
  | fuel + 1, _, _, _, h => ⟨h.1, fun i hi => wpOp_mono (fun a' w' h' => wpAny_of_heldL fuel _ a' w' h'.2) (h.2 i hi)⟩
/-- The last operation waits for number i. -/
def waitsFor (md : Region.Mode) (ops : Array Oper) (l i : Nat) : Bool :=
  match ops[l]? with
  | none => false
  | some o => o.after.any fun e => Region.binds md e && e.on == i
theorem waitsFor_spec {i : Nat} (h : waitsFor md ops l i = true) {o : Oper} (ho : ops[l]? = some o) : ∃ e ∈ o.after, Region.binds md e = true ∧ e.on = i := by
  unfold waitsFor at h
  rw [ho] at h
  simp only [Array.any_eq_true] at h
  obtain ⟨k, hk, h⟩ := h
  simp only [Bool.and_eq_true, beq_iff_eq] at h
  exact ⟨_, Array.getElem_mem hk, h.1, h.2⟩
theorem wpAnyL_first {i : Nat} {oi : Oper} {v : Value} (hi : ops[i]? = some oi) (hl : waitsFor md ops l i = true) (hsel : ∀ (j : Nat) (o : Oper) cs b, ops[j]? = some o → o.op ≠ .select cs b)
    (hQ : ∀ c a w, Q (.panic c) (a.put oi.dst v) w → Q (.panic c) a w) :
    ∀ (fuel : Nat) (listed : Array Bool) (a : Act) (w : World),
      (∀ j oj, ops[j]? = some oj → j ≠ i → listed.getD j true = false → (∀ e ∈ oj.after, Region.binds md e = true → e.on ≠ i) → oi.apart ops oj = true) →
      i ∈ Region.ready md ops listed → YieldsIf P ops S oi v a → S w →
      wpAnyL P md ops Q S l fuel (listed.setIfInBounds i true) (a.put oi.dst v) w → wpAnyL P md ops Q S l (fuel + 1) listed a w := by
  intro fuel
  induction fuel with
  | zero =>
    intro listed a w _ hr hy hS H
    refine ⟨fun h => (by rw [h] at hr; cases hr), fun j hj => ?_⟩
    by_cases hji : j = i
    · subst hji; exact hy.wpOp hi hS ⟨.inr hS, H⟩
    · have := ready_mono hj hji
      rw [H.1] at this
      cases this
  | succ fuel ih =>
    intro listed a w hfree hr hy hS H
    refine ⟨fun h => (by rw [h] at hr; cases hr), fun j hj => ?_⟩
    by_cases hji : j = i
    · subst hji; exact hy.wpOp hi hS ⟨.inr hS, H⟩
    · have h1 := H.2 j (ready_mono hj hji)
      obtain ⟨hjun, oj, hoj, hall⟩ := mem_ready.1 hj
      have hnot : ∀ e ∈ oj.after, Region.binds md e = true → e.on ≠ i := fun e he hb heq => by
        have h1 := hall e he hb
        have h0 := (mem_ready.1 hr).1
        rw [heq] at h1
        rcases Nat.lt_or_ge i listed.size with h' | h'
        · simp [h'] at h0 h1; rw [h0] at h1; cases h1
        · simp [Array.getElem?_eq_none h'] at h1
      have hjl : j ≠ l := fun e => by
        subst e
        obtain ⟨e, he, hb, heq⟩ := waitsFor_spec hl hoj
        exact hnot e he hb heq
      have h2 := wpOp_putIf hoj (hfree j oj hoj hji hjun hnot) (fun cs b => hsel i oi cs b hi) (fun cs b => hsel j oj cs b hoj) hQ hy h1
      have hfree' : ∀ k ok, ops[k]? = some ok → k ≠ i → (listed.setIfInBounds j true).getD k true = false →
          (∀ e ∈ ok.after, Region.binds md e = true → e.on ≠ i) → oi.apart ops ok = true := fun k ok hk hki hun hno => by
        refine hfree k ok hk hki ?_ hno
        by_cases hjk : j = k
        · subst hjk; exact hjun
        · rw [getD_set_ne true hjk] at hun; exact hun
      refine wpOp_mono (fun a' w' h3 => ⟨h3.2.1, ih (listed.setIfInBounds j true) a' w' hfree' (ready_mono hr (Ne.symm hji)) h3.1 (h3.2.1.resolve_left hjl) ?_⟩) h2
      rw [Array.setIfInBounds_comm _ _ hji]
      exact h3.2.2
theorem wpAnyL_take {i : Nat} {oi : Oper} {v : Value} {fuel : Nat} {listed : Array Bool} {a : Act} {w : World} (hi : ops[i]? = some oi) (hl : waitsFor md ops l i = true)
    (hs : Region.noSelect ops = true) (hf : Region.free md ops listed i = true) (hr : (Region.ready md ops listed).contains i = true)
    (hQ : ∀ c a w, Q (.panic c) (a.put oi.dst v) w → Q (.panic c) a w) (hy : YieldsIf P ops S oi v a) (hS : S w)
    (h : wpAnyL P md ops Q S l fuel (listed.setIfInBounds i true) (a.put oi.dst v) w) : wpAnyL P md ops Q S l (fuel + 1) listed a w :=
  wpAnyL_first hi hl (Region.noSelect_spec hs) hQ fuel listed a w (Region.free_spec hi hf) (by simpa using hr) hy hS h
/-- An operation that is wanted is taken first: the three looks at the region in one. -/
theorem tkH (i : Nat) {oi : Oper} {v : Value} {fuel : Nat} {listed : Array Bool} {a : Act} {w : World} (hi : ops[i]? = some oi)
    (hb : (Region.noSelect ops && (Region.free md ops listed i && (Region.ready md ops listed).contains i)) = true)
    (hQ : ∀ c a w, Q (.panic c) (a.put oi.dst v) w → Q (.panic c) a w) (hw : Region.wanted oi (yielded ops a.tmps) = true) (hy : ∀ w, S w → (execOp a.eval oi).run P w = .ok (.value v) w) (hS : S w)
    (h : wpAnyH P md ops Q S fuel (listed.setIfInBounds i true) (a.put oi.dst v) w) : wpAnyH P md ops Q S (fuel + 1) listed a w := by
  simp only [Bool.and_eq_true] at hb
  exact wpAnyH_take hi hb.1 hb.2.1 hb.2.2 hQ (.inl ⟨hw, hy⟩) hS h
theorem tkL (i : Nat) {oi : Oper} {v : Value} {fuel : Nat} {listed : Array Bool} {a : Act} {w : World} (hi : ops[i]? = some oi)
    (hb : (waitsFor md ops l i && (Region.noSelect ops && (Region.free md ops listed i && (Region.ready md ops listed).contains i))) = true)
    (hQ : ∀ c a w, Q (.panic c) (a.put oi.dst v) w → Q (.panic c) a w) (hw : Region.wanted oi (yielded ops a.tmps) = true) (hy : ∀ w, S w → (execOp a.eval oi).run P w = .ok (.value v) w) (hS : S w)
    (h : wpAnyL P md ops Q S l fuel (listed.setIfInBounds i true) (a.put oi.dst v) w) : wpAnyL P md ops Q S l (fuel + 1) listed a w := by
  simp only [Bool.and_eq_true] at hb
  exact wpAnyL_take hi hb.1 hb.2.1 hb.2.2.1 hb.2.2.2 hQ (.inl ⟨hw, hy⟩) hS h
/-- One comes up, no other may: it is not the last one. -/
theorem wpAnyL_next {i : Nat} {o : Oper} {fuel : Nat} {listed : Array Bool} {a : Act} {w : World} (ho : ops[i]? = some o) (hr : Region.ready md ops listed = [i])
    (h : ∀ K' : Act → World → Prop, Shut (∀ a w, S w → (S w → wpAnyL P md ops Q S l fuel (listed.setIfInBounds i true) a w) → K' a w) → if Region.wanted o (yielded ops a.tmps) = true then Oper.wp P o a w K' Q else K' (a.put o.dst undef) w) : wpAnyL P md ops Q S l (fuel + 1) listed a w := by
  refine ⟨fun e => (by rw [hr] at e; cases e), fun j hj => ?_⟩
  rw [hr] at hj
  obtain rfl := List.mem_singleton.1 hj
  exact wpOp_step ho fun K' hK => h K' fun a w hS hW => hK a w ⟨.inr hS, hW hS⟩
/-- Each of the operations rs comes up next (none is the last one). -/
def AllReadyL (P : Program) (md : Region.Mode) (ops : Array Oper) (Q : Exit → Act → World → Prop) (S : World → Prop) (l : Nat) (fuel : Nat) (listed : Array Bool) (a : Act) (w : World) (rs : List Nat) : Prop :=
  ∀ i ∈ rs, wpOp P ops Q i (fun a' w' => (i = l ∨ S w') ∧ wpAnyL P md ops Q S l fuel (listed.setIfInBounds i true) a' w') a w
theorem AllReadyL.nil {fuel : Nat} {listed : Array Bool} {a : Act} {w : World} : AllReadyL P md ops Q S l fuel listed a w [] := fun _ h => by cases h
theorem AllReadyL.cons {fuel : Nat} {listed : Array Bool} {a : Act} {w : World} {i : Nat} {o : Oper} {rs : List Nat} (ho : ops[i]? = some o)
    (h : ∀ K' : Act → World → Prop, Shut (∀ a w, S w → (S w → wpAnyL P md ops Q S l fuel (listed.setIfInBounds i true) a w) → K' a w) → if Region.wanted o (yielded ops a.tmps) = true then Oper.wp P o a w K' Q else K' (a.put o.dst undef) w)
    (hs : AllReadyL P md ops Q S l fuel listed a w rs) : AllReadyL P md ops Q S l fuel listed a w (i :: rs) := fun j hj => by
  rcases List.mem_cons.1 hj with rfl | hj
  · exact wpOp_step ho fun K' hK => h K' fun a w hS hW => hK a w ⟨.inr hS, hW hS⟩
  · exact hs j hj
theorem wpAnyL_ready {rs : List Nat} {fuel : Nat} {listed : Array Bool} {a : Act} {w : World} (hr : Region.ready md ops listed = rs) (hne : rs ≠ []) (h : AllReadyL P md ops Q S l fuel listed a w rs) : wpAnyL P md ops Q S l (fuel + 1) listed a w :=
  ⟨fun h0 => absurd (hr ▸ h0) hne, hr ▸ h⟩
/-- The last one comes up. -/
theorem wpAnyL_last {o : Oper} {fuel : Nat} {listed : Array Bool} {a : Act} {w : World} (ho : ops[l]? = some o) (hr : Region.ready md ops listed = [l]) (hr2 : Region.ready md ops (listed.setIfInBounds l true) = [])
    (h : ∀ K' : Act → World → Prop, Shut (∀ a w, Q .normal a w → K' a w) → if Region.wanted o (yielded ops a.tmps) = true then Oper.wp P o a w K' Q else K' (a.put o.dst undef) w) : wpAnyL P md ops Q S l (fuel + 1) listed a w := by
  refine ⟨fun e => (by rw [hr] at e; cases e), fun j hj => ?_⟩
  rw [hr] at hj
  obtain rfl := List.mem_singleton.1 hj
  refine wpOp_step ho fun K' hK => h K' fun a w hQ => hK a w ⟨.inl rfl, ?_⟩
  cases fuel with
  | zero => exact ⟨hr2, hQ⟩
  | succ fuel => exact ⟨fun _ => hQ, by rw [hr2]; simp⟩
theorem wpAnyL_at {fuel : Nat} {listed : Array Bool} {a : Act} {w : World} (h : ∀ w', w' = w → wpAnyL P md ops Q S l fuel listed a w') : wpAnyL P md ops Q S l fuel listed a w := h w rfl
theorem wp_region_heldL {id : Nat} {a : Act} {w : World} (l : Nat) (hm : P.follows .mixedOrders = true) (hS : S w.drew)
    (h : S w.drew → wpAnyL P .any ops Q S l ops.size (Array.replicate ops.size false) a w.drew) : (Code.region id ops true).wp P Q a w :=
  wp_region_any hm (wpAny_of_heldL _ _ _ _ (h hS))
end
end Bk
