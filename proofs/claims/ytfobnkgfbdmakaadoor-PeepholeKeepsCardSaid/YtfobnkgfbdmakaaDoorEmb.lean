/- Plain: code that is embedded in other code by a rising map: the faults are the same. -/
import Derived.Test.YtfobnkgfbdmakaaDoorPeepS
namespace Bk

/-- c' lies in c: its instruction j is the instruction f j of c, with the targets renumbered; whatever else stands in c has no target. -/
structure Emb (f : Nat → Nat) (c' c : Prg) : Prop where
  mono : ∀ a b, a < b → f a < f b
  len : ∀ j, j < c'.length ↔ f j < c.length
  op : ∀ j, j < c'.length → (c.getD (f j) default).op = (c'.getD j default).op
  valid : ∀ j, j < c'.length → (c.getD (f j) default).valid = (c'.getD j default).valid
  tgt : ∀ j, j < c'.length → (c.getD (f j) default).target.2 = (c'.getD j default).target.2
  hit : ∀ j, j < c'.length → (c'.getD j default).target.2 = true → ∃ t, t < c'.length ∧ (c'.getD j default).target.1 = (t : Nat) ∧ (c.getD (f j) default).target.1 = (f t : Nat)
  rest : ∀ i, i < c.length → (∀ j, f j ≠ i) → (c.getD i default).target.2 = false

theorem getD_mem {c : Prg} {i : Nat} (h : c.length ≤ i) : c.getD i default = default := by
  rw [List.getD_eq_getElem?_getD, List.getElem?_eq_none h]; rfl

namespace Emb
variable {f : Nat → Nat} {c' c : Prg} (E : Emb f c' c)
include E
theorem inj {a b : Nat} : f a = f b ↔ a = b := by
  constructor
  · intro h
    rcases Nat.lt_trichotomy a b with h1 | h1 | h1
    · have := E.mono _ _ h1; omega
    · exact h1
    · have := E.mono _ _ h1; omega
  · rintro rfl; rfl
theorem lt {a b : Nat} : f a < f b ↔ a < b := by
  constructor
  · intro h
    rcases Nat.lt_trichotomy a b with h1 | h1 | h1
    · exact h1
    · subst h1; omega
    · have := E.mono _ _ h1; omega
  · exact E.mono _ _

theorem partner_at {j : Nat} (hj : j < c'.length) : (partner c (f j)).2 = (partner c' j).2 ∧ ((partner c' j).2 = true → ∃ t, t < c'.length ∧ (partner c' j).1 = (t : Nat) ∧ (partner c (f j)).1 = (f t : Nat)) := by
  have hfj := (E.len j).1 hj
  have hop := E.op j hj
  have hv := E.valid j hj
  have ht := E.tgt j hj
  cases h2 : (c'.getD j default).target.2 with
  | false =>
    rw [h2] at ht
    have e1 : partner c' j = (0, false) := by
      unfold partner; rw [if_neg (by omega), Int.toNat_natCast, if_pos (.inl h2)]
    have e2 : partner c (f j) = (0, false) := by
      unfold partner; rw [if_neg (by omega), Int.toNat_natCast, if_pos (.inl ht)]
    rw [e1, e2]; simp
  | true =>
    rw [h2] at ht
    obtain ⟨t, htl, e1, e2⟩ := E.hit j hj h2
    have hft := (E.len t).1 htl
    have hvt := E.valid t htl
    have htt := E.tgt t htl
    have hopt := E.op t htl
    have p1 := partner_eq c' j hj (x := c'.getD j default) (y := c'.getD t default) (t := t) (ok := true) (back := (c'.getD t default).target.1) (ok2 := (c'.getD t default).target.2) rfl (Prod.ext e1 h2) (by rw [Int.toNat_natCast]) rfl rfl rfl
    have p2 := partner_eq c (f j) hfj (x := c.getD (f j) default) (y := c.getD (f t) default) (t := f t) (ok := true) (back := (c.getD (f t) default).target.1) (ok2 := (c.getD (f t) default).target.2) rfl (Prod.ext e2 ht) (by rw [Int.toNat_natCast]) rfl rfl rfl
    rw [hv, hvt, hop, hopt, htt] at p2
    have hlt : decide (((f j : Nat) : Int) < (f t : Nat)) = decide ((j : Int) < (t : Nat)) := by
      have := E.lt (a := j) (b := t)
      rw [decide_eq_decide]; omega
    rw [hlt] at p2
    have hback : ((c'.getD t default).target.2 = false ∨ (c.getD (f t) default).target.1 ≠ ((f j : Nat) : Int)) ↔ ((c'.getD t default).target.2 = false ∨ (c'.getD t default).target.1 ≠ (j : Int)) := by
      cases hb : (c'.getD t default).target.2 with
      | false => simp
      | true =>
        obtain ⟨s, hs, s1, s2⟩ := E.hit t htl hb
        rw [s1, s2]
        have := E.inj (a := s) (b := j)
        simp
        omega
    have n1 : ¬ (true = false ∨ ((t : Nat) : Int) < 0 ∨ (c'.length : Int) ≤ (t : Nat)) := by simp; omega
    have n2 : ¬ (true = false ∨ ((f t : Nat) : Int) < 0 ∨ (c.length : Int) ≤ (f t : Nat)) := by simp; omega
    rw [if_neg n1] at p1
    rw [if_neg n2] at p2
    rw [p1, p2]
    by_cases hval : (c'.getD j default).valid = false ∨ (c'.getD t default).valid = false
    · rw [if_pos hval, if_pos hval]; simp
    · rw [if_neg hval, if_neg hval]
      by_cases hb : (c'.getD t default).target.2 = false ∨ (c'.getD t default).target.1 ≠ (j : Int)
      · rw [if_pos hb, if_pos (hback.2 hb)]; simp
      · rw [if_neg hb, if_neg (fun h => hb (hback.1 h))]
        split
        · exact ⟨rfl, fun _ => ⟨t, htl, rfl, rfl⟩⟩
        · exact ⟨rfl, fun h => by cases h⟩

/-- The open procedures of c out of those of c'. -/
def up (f : Nat → Nat) (p : Int × Int) : Int × Int := ((f p.1.toNat : Nat), (f p.2.toNat : Nat))

omit E in
theorem drop_drop (l : List (Int × Int)) (i k : Int) (h : i ≤ k) : dropOpen k (dropOpen i l) = dropOpen k l := by
  induction l with
  | nil => rfl
  | cons x l ih =>
    obtain ⟨a, t⟩ := x
    simp only [dropOpen]
    split
    · rw [ih, if_pos (by omega)]
    · simp only [dropOpen]

omit E in
theorem open_nat (code : Prg) (i : Nat) : ∀ p ∈ openAt code i, 0 ≤ p.1 ∧ p.1 < i ∧ 0 ≤ p.2 ∧ p.2 < code.length := by
  have sub : ∀ (k : Int) (l : List (Int × Int)), ∀ p ∈ dropOpen k l, p ∈ l := by
    intro k l
    induction l with
    | nil => intro p hp; exact hp
    | cons x l ih =>
      obtain ⟨a, t⟩ := x
      intro p hp
      simp only [dropOpen] at hp
      split at hp
      · exact List.mem_cons_of_mem _ (ih p hp)
      · exact hp
  induction i with
  | zero => intro p hp; cases hp
  | succ i ih =>
    intro p hp
    rw [openAt_succ] at hp
    split at hp
    · rename_i h
      rcases List.mem_cons.1 hp with rfl | hp
      · have := partner_pos h.1; simp; omega
      · have := ih p (sub _ _ p hp); omega
    · have := ih p (sub _ _ p hp); omega

theorem drop_up (k : Nat) (l : List (Int × Int)) (hl : ∀ p ∈ l, 0 ≤ p.1 ∧ 0 ≤ p.2) : dropOpen (f k : Nat) (l.map (up f)) = (dropOpen k l).map (up f) := by
  induction l with
  | nil => rfl
  | cons x l ih =>
    obtain ⟨a, t⟩ := x
    have h := hl (a, t) (by simp)
    have e : (((f t.toNat : Nat) : Int) < (f k : Nat)) ↔ t < (k : Int) := by
      have := E.lt (a := t.toNat) (b := k); simp only at h; omega
    simp only [List.map_cons, up, dropOpen]
    by_cases hlt : t < (k : Int)
    · rw [if_pos hlt, if_pos (e.2 hlt)]
      exact ih fun p hp => hl p (by simp [hp])
    · rw [if_neg hlt, if_neg (fun h => hlt (e.1 h))]
      rfl

theorem open_up : ∀ (i j : Nat), i ≤ c.length → (∀ a, a < j → f a < i) → i ≤ f j → ∀ k : Int, (i : Int) ≤ k → dropOpen k (openAt c i) = dropOpen k ((openAt c' j).map (up f)) := by
  intro i
  induction i with
  | zero =>
    intro j _ h1 _ k _
    rcases Nat.eq_zero_or_pos j with rfl | h
    · rfl
    · have := h1 0 h; omega
  | succ i ih =>
    intro j hi h1 h2 k hk
    by_cases hin : ∃ a, f a = i
    · obtain ⟨a, rfl⟩ := hin
      have haj : a < j := by
        rcases Nat.lt_or_ge a j with h | h
        · exact h
        · rcases Nat.eq_or_lt_of_le h with e | e
          · subst e; omega
          · have := E.mono _ _ e; omega
      obtain rfl : j = a + 1 := by
        rcases Nat.lt_or_ge (a + 1) j with h | h
        · have := h1 (a + 1) h; have := E.mono a (a + 1) (by omega); omega
        · omega
      have hal : a < c'.length := (E.len a).2 (by omega)
      have hI := ih a (by omega) (fun b hb => E.mono _ _ hb) (Nat.le_refl _) ((f a : Nat) : Int) (Int.le_refl _)
      rw [E.drop_up a _ (fun p hp => by have := open_nat c' a p hp; omega)] at hI
      have hP := E.partner_at hal
      rw [openAt_succ, openAt_succ, hI, hP.1, E.op a hal]
      by_cases hc : (partner c' a).2 = true ∧ (c'.getD a default).op = 32
      · rw [if_pos hc, if_pos hc]
        obtain ⟨t, htl, e1, e2⟩ := hP.2 hc.1
        rw [e1, e2]
        simp [up]
      · rw [if_neg hc, if_neg hc]
    · have hno : ∀ a, f a ≠ i := fun a ha => hin ⟨a, ha⟩
      have htf := E.rest i (by omega) hno
      have hpf : (partner c i).2 = false := by
        unfold partner; rw [if_neg (by omega), Int.toNat_natCast, if_pos (.inl htf)]
      rw [openAt_succ, if_neg (by rw [hpf]; simp), drop_drop _ _ _ (by omega)]
      exact ih j (by omega) (fun a ha => by have := h1 a ha; have := hno a; omega) (by omega) k (by omega)

theorem drop_at {j : Nat} (hj : j < c'.length) : dropOpen (f j : Nat) (openAt c (f j)) = (dropOpen j (openAt c' j)).map (up f) := by
  have h := E.open_up (f j) j (Nat.le_of_lt ((E.len j).1 hj)) (fun b hb => E.mono _ _ hb) (Nat.le_refl _) ((f j : Nat) : Int) (Int.le_refl _)
  rw [E.drop_up j _ (fun p hp => by have := open_nat c' j p hp; omega)] at h
  exact h

theorem openAt_at {j : Nat} (hj : j < c'.length) : openAt c (f j + 1) = (openAt c' (j + 1)).map (up f) := by
  have hP := E.partner_at hj
  rw [openAt_succ, openAt_succ, E.drop_at hj, hP.1, E.op j hj]
  by_cases hc : (partner c' j).2 = true ∧ (c'.getD j default).op = 32
  · rw [if_pos hc, if_pos hc]
    obtain ⟨t, htl, e1, e2⟩ := hP.2 hc.1
    rw [e1, e2]
    simp [up]
  · rw [if_neg hc, if_neg hc]

theorem inside_at {j : Nat} (hj : j < c'.length) : insideAt c (f j) = insideAt c' j := by
  rw [insideAt_eq, insideAt_eq, E.drop_at hj]; simp

theorem region_at {j : Nat} (hj : j < c'.length) : regionAt c (f j) = if regionAt c' j < 0 then (-1 : Int) else ((f (regionAt c' j).toNat : Nat) : Int) := by
  rw [regionAt_eq, regionAt_eq, E.openAt_at hj]
  cases h : openAt c' (j + 1) with
  | nil => simp
  | cons p l =>
    have := open_nat c' (j + 1) p (by rw [h]; simp)
    obtain ⟨a, t⟩ := p
    simp only [List.map_cons, up]
    rw [if_neg (by simp only at this; omega)]

omit E in
theorem region_lo (c' : Prg) (j : Nat) : -1 ≤ regionAt c' j := by
  rw [regionAt_eq]
  cases h : openAt c' (j + 1) with
  | nil => simp
  | cons p l =>
    have := open_nat c' (j + 1) p (by rw [h]; simp)
    obtain ⟨a, t⟩ := p
    simp only at this ⊢; omega

theorem fault_at {j : Nat} (hj : j < c'.length) : fault c (f j) = fault c' j := by
  unfold fault
  simp only
  rw [E.valid j hj, E.tgt j hj, E.op j hj, (E.partner_at hj).1, E.inside_at hj]
  by_cases hv : (c'.getD j default).valid = false
  · rw [if_pos hv, if_pos hv]
  rw [if_neg hv, if_neg hv]
  by_cases ht : (c'.getD j default).target.2 = false
  · rw [if_pos ht, if_pos ht]
  rw [if_neg ht, if_neg ht]
  obtain ⟨t, htl, e1, e2⟩ := E.hit j hj (by simpa using ht)
  rw [e1, e2, Int.toNat_natCast, Int.toNat_natCast, (E.partner_at htl).1, E.op t htl]
  have hr : (regionAt c (f j) ≠ regionAt c (f t)) ↔ (regionAt c' j ≠ regionAt c' t) := by
    rw [E.region_at hj, E.region_at htl]
    have h1 := region_lo c' j; have h2 := region_lo c' t
    have := E.inj (a := (regionAt c' j).toNat) (b := (regionAt c' t).toNat)
    split <;> split <;> omega
  simp only [hr]

end Emb
end Bk
