/- Plain: the inverse of a valid image is valid; to optimize the inverse is to invert the optimized image. -/
import Derived.Test.YtfobnkgfbdmakaaDoorVan
set_option linter.unusedVariables false
namespace Bk

theorem inv_target (x : Ins) : x.inverse.target = x.target := by
  unfold Ins.target Ins.inverse targetP
  have h1 : (inv x.op = 22 ∨ inv x.op = 25 ∨ inv x.op = 30 ∨ inv x.op = 31 ∨ inv x.op = 32 ∨ inv x.op = 33) ↔ (x.op = 22 ∨ x.op = 25 ∨ x.op = 30 ∨ x.op = 31 ∨ x.op = 32 ∨ x.op = 33) := by
    unfold inv; repeat (first | (split; · omega) | omega)
  have h2 : (inv x.op = 23 ∨ inv x.op = 24 ∨ inv x.op = 26 ∨ inv x.op = 27) ↔ (x.op = 23 ∨ x.op = 24 ∨ x.op = 26 ∨ x.op = 27) := by
    unfold inv; repeat (first | (split; · omega) | omega)
  simp only [h1, h2]
theorem inv_tgt (x : Ins) : tgt x.inverse = tgt x := by unfold tgt; rw [inv_target]
theorem inv_ctl (x : Ins) : ctl x.inverse = ctl x := by
  unfold ctl Ins.inverse ctlB
  simp only
  rw [decide_eq_decide]
  unfold inv; repeat (first | (split; · omega) | omega)
theorem inv_valid {x : Ins} (h : x.valid = true) (h0 : 0 ≤ x.op) : x.inverse.valid = true := by
  obtain ⟨op, a, b, c, d⟩ := x
  have h35 : op < 35 := by
    unfold Ins.valid validB at h
    simp only [Bool.and_eq_true, decide_eq_true_eq] at h
    exact h.1.1
  have e : ∀ op', op = op' → inv op' = inv op := fun _ e => by rw [e]
  rcases op_cases op h0 h35 with rfl | rfl | rfl | rfl | rfl | rfl | rfl | rfl | rfl | rfl | rfl | rfl | rfl | rfl | rfl | rfl | rfl | rfl | rfl | rfl | rfl | rfl | rfl | rfl | rfl | rfl | rfl | rfl | rfl | rfl | rfl | rfl | rfl | rfl | rfl
  all_goals exact h

/-- The inverse of code. -/
def invT (c : Prg) (x : Ins) (t : Int) : Int := if x.op = 30 ∨ x.op = 31 then (c.getD t.toNat default).a else t
def invI (c : Prg) (x : Ins) : Ins := re (fun t => (c.length : Int) - 1 - invT c x t) x.inverse
def invC (c : Prg) : Prg := (c.map (invI c)).reverse
theorem invC_length (c : Prg) : (invC c).length = c.length := by simp [invC]
theorem invC_get (c : Prg) (j : Nat) (hj : j < c.length) : (invC c).getD (c.length - 1 - j) default = invI c (c.getD j default) := by
  unfold invC
  rw [List.getD_eq_getElem?_getD, List.getElem?_reverse (by simp; omega)]
  have : (c.map (invI c)).length - 1 - (c.length - 1 - j) = j := by simp; omega
  rw [this]
  simp [List.getD_eq_getElem?_getD, hj]
theorem invI_op (c : Prg) (x : Ins) : (invI c x).op = inv x.op := by unfold invI; rw [re_op]; rfl
theorem invI_tgt (c : Prg) (x : Ins) : tgt (invI c x) = tgt x := by unfold invI; rw [re_tgt, inv_tgt]
theorem invI_target (c : Prg) {x : Ins} (h : tgt x = true) : (invI c x).target.1 = (c.length : Int) - 1 - invT c x x.target.1 := by
  unfold invI; rw [re_target _ (by rw [inv_tgt]; exact h), inv_target]

/-- A procedure: its start and its end. -/
def Proc (c : Prg) (f t : Nat) : Prop := f < c.length ∧ (c.getD f default).op = 32 ∧ partner c f = ((t : Int), true)

theorem pair_32 {b : Int} {bf : Bool} (h : pairB 32 b bf = true) : b = 33 ∧ bf = true := by
  cases bf <;> simp_all [pairB, jumpB, landB]
theorem pair_33 {b : Int} {bf : Bool} (h : pairB 33 b bf = true) : b = 32 ∧ bf = false := by
  cases bf <;> simp_all [pairB, jumpB, landB]

theorem proc_spec {c : Prg} {f t : Nat} (h : Proc c f t) : f < t ∧ t < c.length ∧ (c.getD t default).op = 33 ∧ partner c t = ((f : Int), true) := by
  obtain ⟨hf, hop, hp⟩ := h
  have hp2 : (partner c f).2 = true := by rw [hp]
  obtain ⟨a1, a2, a3, a4, a5, a6, a7, a8, a9⟩ := partner_inv hp2
  rw [hp] at a3 a4 a5 a7 a8 a9
  simp only [Int.toNat_natCast] at a3 a4 a5 a6 a7 a8 a9
  rw [hop] at a9
  obtain ⟨b1, b2⟩ := pair_32 a9
  have hlt : f < t := by have := of_decide_eq_true b2; omega
  refine ⟨hlt, by omega, b1, ?_⟩
  rw [partner_eq c t (by omega) rfl a8 (by rw [Int.toNat_natCast]) a5 a7 a6]
  rw [if_neg (by simp; omega), if_neg (by simp), if_neg (by simp), hop, b1]
  have : decide ((t : Int) < (f : Int)) = false := by simp; omega
  rw [this]; rfl

theorem mem_drop {i : Int} {l : List (Int × Int)} {p : Int × Int} (h : p ∈ l) (hi : i ≤ p.2) : p ∈ dropOpen i l := by
  induction l with
  | nil => cases h
  | cons x l ih =>
    obtain ⟨a, t⟩ := x
    simp only [dropOpen]
    split
    · rename_i hlt
      rcases List.mem_cons.1 h with rfl | h
      · simp only at hi; omega
      · exact ih h
    · exact h
theorem drop_sub {k : Int} {l : List (Int × Int)} {p : Int × Int} (h : p ∈ dropOpen k l) : p ∈ l := by
  induction l with
  | nil => exact h
  | cons x l ih =>
    obtain ⟨a, t⟩ := x
    simp only [dropOpen] at h
    split at h
    · exact List.mem_cons_of_mem _ (ih h)
    · exact h
theorem drop_head {k : Int} {l r : List (Int × Int)} {p : Int × Int} (h : dropOpen k l = p :: r) : k ≤ p.2 := by
  induction l with
  | nil => cases h
  | cons x l ih =>
    obtain ⟨a, t⟩ := x
    simp only [dropOpen] at h
    split at h
    · exact ih h
    · injection h with h1 h2; subst h1; simp only; omega

theorem mem_open {c : Prg} {f t : Nat} (h : Proc c f t) : ∀ i, f < i → i ≤ t + 1 → ((f : Int), (t : Int)) ∈ openAt c i := by
  intro i
  induction i with
  | zero => intro h; omega
  | succ i ih =>
    intro h1 h2
    rw [openAt_succ]
    rcases Nat.eq_or_lt_of_le (Nat.le_of_lt_succ h1) with e | e
    · subst e
      rw [if_pos ⟨by rw [h.2.2], h.2.1⟩, h.2.2]
      exact List.mem_cons_self
    · have := mem_drop (ih e (by omega)) (show (i : Int) ≤ ((f : Int), (t : Int)).2 by simp only; omega)
      split
      · exact List.mem_cons_of_mem _ this
      · exact this
theorem open_proc {c : Prg} : ∀ i, i ≤ c.length → ∀ p ∈ openAt c i, ∃ f t : Nat, p = ((f : Int), (t : Int)) ∧ Proc c f t ∧ f < i := by
  intro i
  induction i with
  | zero => intro _ p hp; cases hp
  | succ i ih =>
    intro hi p hp
    have old : ∀ p ∈ dropOpen i (openAt c i), ∃ f t : Nat, p = ((f : Int), (t : Int)) ∧ Proc c f t ∧ f < i + 1 := by
      intro p hp
      obtain ⟨f, t, e, h1, h2⟩ := ih (by omega) p (drop_sub hp)
      exact ⟨f, t, e, h1, by omega⟩
    rw [openAt_succ] at hp
    split at hp
    · rename_i hc
      rcases List.mem_cons.1 hp with rfl | hp
      · obtain ⟨t0, t1⟩ := partner_pos hc.1
        obtain ⟨t, ht⟩ := Int.eq_ofNat_of_zero_le t0
        exact ⟨i, t, by rw [ht], ⟨by omega, hc.2, Prod.ext ht hc.1⟩, by omega⟩
      · exact old p hp
    · exact old p hp

theorem region_spec {c : Prg} {i : Nat} (hi : i < c.length) : (regionAt c i = -1 ∧ ∀ f t, Proc c f t → ¬ (f ≤ i ∧ i ≤ t)) ∨ ∃ f t : Nat, Proc c f t ∧ f ≤ i ∧ i ≤ t ∧ regionAt c i = (f : Int) := by
  rw [regionAt_eq]
  cases h : openAt c (i + 1) with
  | nil =>
    refine .inl ⟨rfl, fun f t hp hin => ?_⟩
    have := mem_open hp (i + 1) (by omega) (by omega)
    rw [h] at this; cases this
  | cons p l =>
    refine .inr ?_
    obtain ⟨f, t, e, h1, h2⟩ := open_proc (c := c) (i + 1) (by omega) p (by rw [h]; simp)
    subst e
    refine ⟨f, t, h1, by omega, ?_, rfl⟩
    rw [openAt_succ] at h
    split at h
    · injection h with e1 e2
      injection e1 with e3 e4
      have : f = i := by omega
      subst this
      exact Nat.le_of_lt (proc_spec h1).1
    · have := drop_head h
      simp only at this; omega

/-- No procedure starts inside another. -/
def Disj (c : Prg) : Prop := ∀ f t f' t', Proc c f t → Proc c f' t' → f' < f → f ≤ t' → False
theorem disj_one {c : Prg} (hd : Disj c) {f t f' t' i : Nat} (h : Proc c f t) (h' : Proc c f' t') (h1 : f ≤ i) (h2 : i ≤ t) (h3 : f' ≤ i) (h4 : i ≤ t') : f = f' ∧ t = t' := by
  have e : f = f' := by
    rcases Nat.lt_trichotomy f f' with e | e | e
    · exact (hd f' t' f t h' h e (by omega)).elim
    · exact e
    · exact (hd f t f' t' h h' e (by omega)).elim
  subst e
  have := h.2.2.symm.trans h'.2.2
  simp at this
  exact ⟨rfl, by omega⟩
theorem region_same {c : Prg} (hd : Disj c) {i k : Nat} (hi : i < c.length) (hk : k < c.length) : regionAt c i = regionAt c k ↔ ∀ f t, Proc c f t → ((f ≤ i ∧ i ≤ t) ↔ (f ≤ k ∧ k ≤ t)) := by
  rcases region_spec hi with ⟨e1, n1⟩ | ⟨f, t, hp, a1, a2, e1⟩
  · rcases region_spec hk with ⟨e2, n2⟩ | ⟨f', t', hp', b1, b2, e2⟩
    · rw [e1, e2]
      exact ⟨fun _ f t hp => ⟨fun h => absurd h (n1 f t hp), fun h => absurd h (n2 f t hp)⟩, fun _ => rfl⟩
    · rw [e1, e2]
      exact ⟨fun h => by omega, fun h => absurd ((h f' t' hp').2 ⟨b1, b2⟩) (n1 f' t' hp')⟩
  · rcases region_spec hk with ⟨e2, n2⟩ | ⟨f', t', hp', b1, b2, e2⟩
    · rw [e1, e2]
      exact ⟨fun h => by omega, fun h => absurd ((h f t hp).1 ⟨a1, a2⟩) (n2 f t hp)⟩
    · rw [e1, e2]
      constructor
      · intro h
        have : f = f' := by omega
        subst this
        have ht := hp.2.2.symm.trans hp'.2.2
        have : t = t' := by simp at ht; omega
        subst this
        intro g u hg
        constructor
        · intro hin
          obtain ⟨rfl, rfl⟩ := disj_one hd hp hg a1 a2 hin.1 hin.2
          exact ⟨b1, b2⟩
        · intro hin
          obtain ⟨rfl, rfl⟩ := disj_one hd hp hg b1 b2 hin.1 hin.2
          exact ⟨a1, a2⟩
      · intro h
        obtain ⟨h1, h2⟩ := (h f t hp).1 ⟨a1, a2⟩
        obtain ⟨rfl, rfl⟩ := disj_one hd hp hp' h1 h2 b1 b2
        rfl

/-- What a valid image's code is. -/
structure Ok (c : Prg) : Prop where
  wf : CodeWf c
  len : c.length ≤ 65536
  val : ∀ i, i < c.length → (c.getD i default).valid = true
  call : ∀ i, i < c.length → ((c.getD i default).op = 30 ∨ (c.getD i default).op = 31) → ∃ s e : Nat, (c.getD i default).target.1 = (s : Int) ∧ Proc c s e
  link : ∀ i, i < c.length → tgt (c.getD i default) = true → ¬ ((c.getD i default).op = 30 ∨ (c.getD i default).op = 31) → ∃ t : Nat, t < c.length ∧ (c.getD i default).target.1 = (t : Int) ∧ partner c i = ((t : Int), true)
  disj : Disj c
  area : ∀ i, i < c.length → (jumpB (c.getD i default).op = true ∨ landB (c.getD i default).op = true) → regionAt c i = regionAt c (c.getD i default).target.1.toNat

theorem ok_of {im : Img} (h : im.check.2 = 0) (hw : CodeWf im.code) : Ok im.code := by
  obtain ⟨hs, hf⟩ := check_fault h
  have key : ∀ i, i < im.code.length → tgt (im.code.getD i default) = true → ¬ ((im.code.getD i default).op = 30 ∨ (im.code.getD i default).op = 31) → (partner im.code i).2 = true ∧ ¬ ((im.code.getD i default).op = 32 ∧ insideAt im.code i = true) ∧ ¬ ((jumpB (im.code.getD i default).op = true ∨ landB (im.code.getD i default).op = true) ∧ regionAt im.code i ≠ regionAt im.code (im.code.getD i default).target.1.toNat) := by
    intro i hi ht hop
    have h0 := hf i hi
    unfold fault at h0
    simp only at h0
    rw [if_neg (by rw [fault_ok (hf i hi)]; simp), if_neg (by unfold tgt at ht; rw [ht]; simp), if_neg hop] at h0
    split at h0
    · cases h0
    · rename_i h1
      split at h0
      · cases h0
      · rename_i h2
        split at h0
        · cases h0
        · rename_i h3
          exact ⟨by simpa using h1, h2, h3⟩
  refine ⟨hw, ?_, fun i hi => fault_ok (hf i hi), ?_, ?_, ?_, ?_⟩
  · unfold Img.sized at hs; simp at hs; omega
  · intro i hi hop
    have ht : tgt (im.code.getD i default) = true := by rw [tgt_ops, decide_eq_true_eq]; omega
    have h0 := hf i hi
    unfold fault at h0
    simp only at h0
    rw [if_neg (by rw [fault_ok (hf i hi)]; simp), if_neg (by unfold tgt at ht; rw [ht]; simp), if_pos hop] at h0
    split at h0
    · cases h0
    · rename_i h3
      have h4 : (partner im.code (im.code.getD i default).target.1).2 = true := by
        cases hp : (partner im.code (im.code.getD i default).target.1).2
        · exact absurd (Or.inl hp) h3
        · rfl
      have h5 : (im.code.getD (im.code.getD i default).target.1.toNat default).op = 32 := by
        rcases Decidable.em ((im.code.getD (im.code.getD i default).target.1.toNat default).op = 32) with e | e
        · exact e
        · exact absurd (Or.inr e) h3
      obtain ⟨a1, a2, a3, a4, _⟩ := partner_inv h4
      obtain ⟨s, hs⟩ := Int.eq_ofNat_of_zero_le a1
      obtain ⟨e, he⟩ := Int.eq_ofNat_of_zero_le a3
      rw [hs] at a2 h4 h5 he ⊢
      exact ⟨s, e, rfl, by omega, by simpa using h5, Prod.ext he h4⟩
  · intro i hi ht hop
    obtain ⟨h1, _⟩ := key i hi ht hop
    obtain ⟨_, _, a3, a4, a5, _⟩ := partner_inv h1
    obtain ⟨t, ht'⟩ := Int.eq_ofNat_of_zero_le a3
    rw [Int.toNat_natCast] at a5
    refine ⟨t, by omega, by rw [a5]; exact ht', Prod.ext ht' h1⟩
  · intro f t f' t' hp hp' h1 h2
    have ht : tgt (im.code.getD f default) = true := by rw [tgt_ops, decide_eq_true_eq, hp.2.1]; omega
    obtain ⟨_, k2, _⟩ := key f hp.1 ht (by rw [hp.2.1]; omega)
    refine k2 ⟨hp.2.1, ?_⟩
    rw [insideAt_eq]
    have hm := mem_drop (mem_open hp' f h1 (by omega)) (show (f : Int) ≤ ((f' : Int), (t' : Int)).2 by simp only; omega)
    cases hd : dropOpen (f : Int) (openAt im.code f) with
    | nil => rw [hd] at hm; cases hm
    | cons _ _ => rfl
  · intro i hi hj
    have hop : ¬ ((im.code.getD i default).op = 30 ∨ (im.code.getD i default).op = 31) := by
      unfold jumpB landB at hj; simp only [decide_eq_true_eq] at hj; omega
    have ht : tgt (im.code.getD i default) = true := by
      rw [tgt_ops, decide_eq_true_eq]; unfold jumpB landB at hj; simp only [decide_eq_true_eq] at hj; omega
    obtain ⟨_, _, k3⟩ := key i hi ht hop
    rcases Decidable.em (regionAt im.code i = regionAt im.code (im.code.getD i default).target.1.toNat) with e | e
    · exact e
    · exact absurd ⟨hj, e⟩ k3

theorem ok_check {im : Img} (hs : im.sized = true) (h : Ok im.code) : im.check.2 = 0 := by
  refine check_of hs fun i hi => ?_
  unfold fault
  simp only
  rw [if_neg (by rw [h.val i hi]; simp)]
  by_cases ht : tgt (im.code.getD i default) = true
  · rw [if_neg (by unfold tgt at ht; rw [ht]; simp)]
    by_cases hop : (im.code.getD i default).op = 30 ∨ (im.code.getD i default).op = 31
    · rw [if_pos hop]
      obtain ⟨s, e, h1, h2⟩ := h.call i hi hop
      rw [h1, Int.toNat_natCast, h2.2.2, h2.2.1]; simp
    · rw [if_neg hop]
      obtain ⟨t, t1, t2, t3⟩ := h.link i hi ht hop
      rw [t3]
      rw [if_neg (by simp)]
      have hin : ¬ ((im.code.getD i default).op = 32 ∧ insideAt im.code i = true) := by
        rintro ⟨h32, hin⟩
        rw [insideAt_eq] at hin
        cases hd : dropOpen (i : Int) (openAt im.code i) with
        | nil => rw [hd] at hin; cases hin
        | cons p l =>
          obtain ⟨f, u, e, hp, hlt⟩ := open_proc (c := im.code) i (by omega) p (drop_sub (by rw [hd]; simp))
          have := drop_head hd
          subst e
          exact h.disj i t f u ⟨hi, h32, t3⟩ hp hlt (by simp only at this; omega)
      rw [if_neg hin]
      rw [if_neg]
      rintro ⟨hj, hne⟩
      exact hne (h.area i hi hj)
  · rw [if_pos (by unfold tgt at ht; simpa using ht)]
end Bk
