/- A region that draws its order and ends with two operations in a row: a predicate for each value, which may speak of the slots it waits for. -/
import Derived.Test.YtbijhlgdilkopaaDoorErX
set_option linter.unusedVariables false
set_option linter.unusedSimpArgs false
namespace Bk
open Go Go.RowKit
/-- What an operation finds when its turn comes: each value done has its own stretch of new blocks. -/
structure GotI (ops : Array Oper) (n : Nat) (Pr : Nat → Nat → Nat → Value → World → Prop) (W0 : World) (a0 : Act) (dep : Nat → Bool) (lo hi : Nat → Nat) (a : Act) (w : World) : Prop where
  b : Below W0.heap.size W0 w
  d : a.defers = a0.defers
  s : a.tmps.size = a0.tmps.size
  o : ∀ t, isDst ops n t = false → a.tmps[t]? = a0.tmps[t]?
  iv : ∀ j, j < n → dep j = true → W0.heap.size ≤ lo j ∧ lo j ≤ hi j ∧ hi j ≤ w.heap.size
  ap : ∀ j k, j < n → k < n → dep j = true → dep k = true → j ≠ k → hi j ≤ lo k ∨ hi k ≤ lo j
  p : ∀ j t, j < n → (ops[j]?).bind (·.dst) = some t → dep j = true → ∃ v, a.tmps[t]? = some v ∧ Pr j (lo j) (hi j) v w
/-- The operations that one waits for, in one step or two. -/
def dep2B (ops : Array Oper) (n : Nat) (o : Oper) : Bool := (List.range n).all fun j => depB o j || (List.range n).any fun k => depB o k && (ops[k]?).any fun o' => depB o' j
theorem dep_bind {o : Oper} {l : Array Bool} (h : ∀ e ∈ o.after, Region.binds .any e = true → l.getD e.on false = true) (j : Nat) (hj : depB o j = true) : l.getD j false = true := by
  unfold depB at hj
  rw [Array.any_eq_true'] at hj
  obtain ⟨e, he, hb⟩ := hj
  simp only [Bool.and_eq_true, beq_iff_eq] at hb
  rw [← hb.2]; exact h e he hb.1
section
variable {P : Program} {Q : Exit → Act → World → Prop} {n : Nat} {ops : Array Oper}
theorem wp_region_pred2 {id : Nat} {a0 : Act} {w : World} (hm : P.follows .mixedOrders = true) (hc : chainB ops (n + 1) = true) (hd : dstB ops n a0.tmps.size = true) (hall : (ops[n]?).any (dep2B ops n) = true) (Pr : Nat → Nat → Nat → Value → World → Prop) (R : Act → World → Prop)
    (hPr : ∀ j lo hi v w w', Pr j lo hi v w → Below w.heap.size w w' → Pr j lo hi v w')
    (step : ∀ (i : Nat) (o : Oper), i < n → ops[i]? = some o → ∀ (lo hi : Nat → Nat) (a : Act) (w' : World), GotI ops n Pr w a0 (depB o) lo hi a w' → o.wp P a w' (fun a' w'' => ∃ v, a' = a.put o.dst v ∧ Pr i w'.heap.size w''.heap.size v w'' ∧ Below w'.heap.size w' w'') Q)
    (mid : ∀ o, ops[n]? = some o → ∀ (lo hi : Nat → Nat) (a : Act) (w' : World), GotI ops n Pr w a0 (fun _ => true) lo hi a w' → o.wp P a w' (fun a' w'' => R a' w'') Q)
    (last : ∀ (o : Oper), ops[n + 1]? = some o → ∀ (a : Act) (w' : World), R a w' → o.wp P a w' (fun a' w'' => Q .normal a' w'') Q) : (Code.region id ops true).wp P Q a0 w := by
  obtain ⟨hs, hdep, _⟩ := chain_facts hc
  have hdd : ∀ i o, i < n → ops[i]? = some o → ∃ t, o.dst = some t ∧ t < a0.tmps.size ∧ ∀ j o', j < n → ops[j]? = some o' → o'.dst = some t → j = i := fun i o hi ho => by
    unfold dstB at hd
    rw [List.all_eq_true] at hd
    have := hd i (List.mem_range.2 hi)
    rw [ho] at this
    cases hdst : o.dst with
    | none => rw [Option.any_some, hdst] at this; cases this
    | some t =>
      simp only [Option.any_some, hdst, Bool.and_eq_true, decide_eq_true_eq, List.all_eq_true, List.mem_range, Bool.or_eq_true, beq_iff_eq] at this
      refine ⟨t, rfl, this.1, fun j o' hj ho' hdt => ?_⟩
      rcases this.2 j hj with h | h
      · exact h.symm
      · rw [ho'] at h; simp [hdt] at h
  have hdl : ∀ i o, ops[i]? = some o → ∀ j, depB o j = true → j < i := fun i o ho j hj => by
    unfold depB at hj
    rw [Array.any_eq_true'] at hj
    obtain ⟨e, he, hb⟩ := hj
    simp only [Bool.and_eq_true, beq_iff_eq] at hb
    rw [← hb.2]; exact (hdep i o ho).2 e he hb.1
  have hget : ∀ (l : Array Bool) (i j : Nat), j ≠ i → (l.setIfInBounds i true).getD j false = l.getD j false := fun l i j h => by
    simp only [Array.getD_eq_getD_getElem?, Array.getElem?_setIfInBounds]
    rw [if_neg (Ne.symm h)]
  have hget2 : ∀ (l : Array Bool) (i j : Nat), l.getD j false = true → (l.setIfInBounds i true).getD j false = true := fun l i j h => by
    by_cases e : j = i
    · subst e
      simp only [Array.getD_eq_getD_getElem?, Array.getElem?_setIfInBounds] at h ⊢
      rw [if_pos trivial]
      split
      · rfl
      · rename_i hlt
        rw [Array.getElem?_eq_none (by omega)] at h; cases h
    · rw [hget l i j e]; exact h
  have hfalse : ∀ (l : Array Bool) (i : Nat), l.getD i true = false → l.getD i false = false := fun l i h => by
    simp only [Array.getD_eq_getD_getElem?] at h ⊢
    cases hx : l[i]? with
    | none => rw [hx] at h; cases h
    | some x => rw [hx] at h; exact h
  refine wp_region_inv hm hc (fun l a w' => (∀ i o, ops[i]? = some o → l.getD i false = true → ∀ j, depB o j = true → l.getD j false = true) ∧ ((l.getD n false = false ∧ ∃ lo hi, GotI ops n Pr w a0 (fun j => l.getD j false) lo hi a w') ∨ ((∀ j, j ≤ n → l.getD j false = true) ∧ R a w'))) ?_ ?_ ?_
  · have h0 : ∀ j, (Array.replicate (n + 1 + 1) false).getD j false = false := fun j => by
      simp only [Array.getD_eq_getD_getElem?, Array.getElem?_replicate]; split <;> rfl
    refine ⟨fun i o _ hl => (by rw [h0] at hl; cases hl), .inl ⟨h0 n, fun _ => 0, fun _ => 0, (Below.refl _ _).drew, rfl, rfl, fun t _ => rfl, fun j _ hl => ?_, fun j k _ _ hl => ?_, fun j t hj ht hl => ?_⟩⟩
    all_goals (rw [h0] at hl; cases hl)
  · intro l a w' i o hi ho hI hli hbd
    obtain ⟨hcl, hI⟩ := hI
    have hlf := hfalse l i hli
    have hdone := dep_bind hbd
    have hcl' : ∀ i' o', ops[i']? = some o' → (l.setIfInBounds i true).getD i' false = true → ∀ j, depB o' j = true → (l.setIfInBounds i true).getD j false = true := fun i' o' ho' hl' j hj => by
      apply hget2
      by_cases e : i' = i
      · subst e
        rw [ho] at ho'; injection ho' with ho'; subst ho'
        exact hdone j hj
      · rw [hget l i i' e] at hl'
        exact hcl i' o' ho' hl' j hj
    rcases hI with ⟨hn, lo, hi_, hg⟩ | ⟨hdn, _⟩
    · by_cases hin : i = n
      · subst hin
        have hal : ∀ j, j < i → l.getD j false = true := fun j hj => by
          rw [ho, Option.any_some] at hall
          unfold dep2B at hall
          rw [List.all_eq_true] at hall
          have := hall j (List.mem_range.2 hj)
          simp only [Bool.or_eq_true, List.any_eq_true, List.mem_range, Bool.and_eq_true] at this
          rcases this with h | ⟨k, hk, h1, h2⟩
          · exact hdone j h
          · cases hok : ops[k]? with
            | none => rw [hok] at h2; cases h2
            | some o' =>
              rw [hok, Option.any_some] at h2
              exact hcl k o' hok (hdone k h1) j h2
        refine Oper.wp_mono (fun a' w'' hh => ⟨hcl', .inr ⟨fun j hj => ?_, hh⟩⟩) (mid o ho lo hi_ a w' ⟨hg.b, hg.d, hg.s, hg.o, fun j hj _ => hg.iv j hj (hal j hj), fun j k hj hk _ _ => hg.ap j k hj hk (hal j hj) (hal k hk), fun j t hj ht _ => hg.p j t hj ht (hal j hj)⟩)
        by_cases e : j = i
        · subst e
          simp only [Array.getD_eq_getD_getElem?, Array.getElem?_setIfInBounds]
          rw [if_pos trivial]
          split
          · rfl
          · rename_i hlt
            simp only [Array.getD_eq_getD_getElem?] at hli
            rw [Array.getElem?_eq_none (by omega)] at hli; cases hli
        · rw [hget l i j e]; exact hal j (by omega)
      · have hi' : i < n := by omega
        have hgd : GotI ops n Pr w a0 (depB o) lo hi_ a w' := ⟨hg.b, hg.d, hg.s, hg.o, fun j hj hd => hg.iv j hj (hdone j hd), fun j k hj hk h1 h2 => hg.ap j k hj hk (hdone j h1) (hdone k h2), fun j t hj ht hd => hg.p j t hj ht (hdone j hd)⟩
        refine Oper.wp_mono (fun a' w'' hh => ?_) (step i o hi' ho lo hi_ a w' hgd)
        obtain ⟨v, rfl, hv, hb⟩ := hh
        obtain ⟨t, hdst, htl, huniq⟩ := hdd i o hi' ho
        have htmps : (a.put o.dst v).tmps = a.tmps.setIfInBounds t v := by rw [hdst]; rfl
        have hdef : (a.put o.dst v).defers = a.defers := by rw [hdst]; rfl
        have hsz := hb.size
        have hne0 : ∀ j, j ≠ i → (l.setIfInBounds i true).getD j false = true → l.getD j false = true := fun j e h => by rw [hget l i j e] at h; exact h
        refine ⟨hcl', .inl ⟨?_, fun j => if j = i then w'.heap.size else lo j, fun j => if j = i then w''.heap.size else hi_ j, hg.b.next hb, hdef.trans hg.d, by rw [htmps]; simpa using hg.s, fun t' ht' => ?_, fun j hj hl => ?_, fun j k hj hk h1 h2 hjk => ?_, fun j t' hj ht' hl => ?_⟩⟩
        · rw [hget l i n (Ne.symm hin)]; exact hn
        · rw [htmps, Array.getElem?_setIfInBounds, if_neg (fun e => ?_)]
          · exact hg.o t' ht'
          · subst e
            unfold isDst at ht'
            have : ((List.range n).any fun i => (ops[i]?).any fun o => o.dst == some t) = true := by
              rw [List.any_eq_true]
              exact ⟨i, List.mem_range.2 hi', by rw [ho]; simp [hdst]⟩
            rw [ht'] at this; cases this
        · by_cases e : j = i
          · rw [if_pos e, if_pos e]; exact ⟨hg.b.size, hsz, Nat.le_refl _⟩
          · rw [if_neg e, if_neg e]
            have := hg.iv j hj (hne0 j e hl)
            exact ⟨this.1, this.2.1, Nat.le_trans this.2.2 hsz⟩
        · by_cases e : j = i
          · have e2 : k ≠ i := fun e2 => hjk (e.trans e2.symm)
            rw [if_pos e, if_pos e, if_neg e2, if_neg e2]
            exact .inr (hg.iv k hk (hne0 k e2 h2)).2.2
          · by_cases e2 : k = i
            · rw [if_neg e, if_neg e, if_pos e2, if_pos e2]
              exact .inl (hg.iv j hj (hne0 j e h1)).2.2
            · rw [if_neg e, if_neg e, if_neg e2, if_neg e2]
              exact hg.ap j k hj hk (hne0 j e h1) (hne0 k e2 h2) hjk
        · cases hoj : ops[j]? with
          | none => rw [hoj] at ht'; cases ht'
          | some o' =>
            rw [hoj] at ht'
            have ht'' : o'.dst = some t' := ht'
            by_cases e : j = i
            · rw [if_pos e, if_pos e]
              subst e
              rw [ho] at hoj; injection hoj with hoj; subst hoj
              rw [hdst] at ht''; injection ht'' with ht''; subst ht''
              refine ⟨v, ?_, hv⟩
              rw [htmps, Array.getElem?_setIfInBounds, if_pos rfl, if_pos (by rw [hg.s]; exact htl)]
            · rw [if_neg e, if_neg e]
              have hne : t ≠ t' := fun e2 => by subst e2; exact e (huniq j o' hj hoj ht'')
              obtain ⟨v', h1, h2⟩ := hg.p j t' hj (by rw [hoj]; exact ht'') (hne0 j e hl)
              exact ⟨v', by rw [htmps, Array.getElem?_setIfInBounds, if_neg hne]; exact h1, hPr j _ _ v' w' w'' h2 hb⟩
    · have := hdn i (by omega)
      rw [hlf] at this; cases this
  · intro l a w' o ho hI hal
    obtain ⟨_, hI⟩ := hI
    rcases hI with ⟨hn, _⟩ | ⟨_, hr⟩
    · have := hal n (by omega)
      rw [hn] at this; cases this
    · exact last o ho a w' hr
theorem wp_region_pred3 {id : Nat} {a0 : Act} {w : World} (hm : P.follows .mixedOrders = true) (hc : chainB ops (n + 1) = true) (hd : dstB ops n a0.tmps.size = true) (hall : (ops[n]?).any (dep2B ops n) = true) (Pr : Nat → Nat → Nat → Value → World → Prop)
    (hPr : ∀ j lo hi v w w', Pr j lo hi v w → Below w.heap.size w w' → Pr j lo hi v w')
    (step : ∀ (i : Nat) (o : Oper), i < n → ops[i]? = some o → ∀ (lo hi : Nat → Nat) (a : Act) (w' : World), GotI ops n Pr w a0 (depB o) lo hi a w' → o.wp P a w' (fun a' w'' => ∃ v, a' = a.put o.dst v ∧ Pr i w'.heap.size w''.heap.size v w'' ∧ Below w'.heap.size w' w'') Q)
    (fin : ∀ o o', ops[n]? = some o → ops[n + 1]? = some o' → ∀ (lo hi : Nat → Nat) (a : Act) (w' : World), GotI ops n Pr w a0 (fun _ => true) lo hi a w' → o.wp P a w' (fun a' w'' => o'.wp P a' w'' (fun a'' w3 => Q .normal a'' w3) Q) Q) : (Code.region id ops true).wp P Q a0 w := by
  obtain ⟨hs, _, _⟩ := chain_facts hc
  have h7 : ops[n + 1]? = some (ops[n + 1]'(by omega)) := Array.getElem?_eq_getElem (by omega)
  refine wp_region_pred2 hm hc hd hall Pr (fun a w => (ops[n + 1]'(by omega)).wp P a w (fun a'' w3 => Q .normal a'' w3) Q) hPr step (fun o ho lo hi a w' G => fin o _ ho h7 lo hi a w' G) (fun o ho a w' h => ?_)
  rw [h7] at ho
  injection ho with ho
  rw [← ho]; exact h
theorem GotI.act {Pr : Nat → Nat → Nat → Value → World → Prop} {W0 w : World} {a0 a : Act} {dep : Nat → Bool} {lo hi : Nat → Nat} (G : GotI ops n Pr W0 a0 dep lo hi a w) : Got ops n (fun _ _ _ => True) W0 a0 dep a w :=
  ⟨G.b, G.d, G.s, G.o, fun j t hj ht hd => (G.p j t hj ht hd).imp fun _ h => ⟨h.1, trivial⟩⟩
end
end Bk
