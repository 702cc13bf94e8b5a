/- Plain: the inverse of a valid image is valid; to optimize the inverse is to invert the optimized image (the second part). -/
import Derived.Test.YtfobnkgfbdmakaaDoorInvP
set_option linter.unusedVariables false
namespace Bk

theorem pair_ops {a b : Int} {bf : Bool} (h : pairB a b bf = true) : (jumpB a = true ∧ landB b = true) ∨ (landB a = true ∧ jumpB b = true) ∨ (a = 32 ∧ b = 33 ∧ bf = true) ∨ (a = 33 ∧ b = 32 ∧ bf = false) := by
  unfold pairB at h
  split at h
  · exact .inl ⟨‹_›, h⟩
  · split at h
    · exact .inr (.inl ⟨‹_›, h⟩)
    · split at h
      · simp at h; exact .inr (.inr (.inl ⟨h.1, h.2, ‹_›⟩))
      · rename_i hb; simp at h; exact .inr (.inr (.inr ⟨h.1, h.2, by simpa using hb⟩))
theorem jump_inv {a : Int} (h : jumpB a = true) : landB (inv a) = true := by
  unfold jumpB at h; simp only [decide_eq_true_eq] at h
  rcases h with rfl | rfl | rfl <;> rfl
theorem land_inv {a : Int} (h : landB a = true) : jumpB (inv a) = true := by
  unfold landB at h; simp only [decide_eq_true_eq] at h
  rcases h with rfl | rfl | rfl <;> rfl
theorem land_not {a : Int} (h : landB a = true) : jumpB a = false := by
  unfold landB at h; simp only [decide_eq_true_eq] at h
  rcases h with rfl | rfl | rfl <;> rfl
theorem pair_mk1 {a b : Int} {bf : Bool} (ha : jumpB a = true) (hb : landB b = true) : pairB a b bf = true := by unfold pairB; rw [if_pos ha]; exact hb
theorem pair_mk2 {a b : Int} {bf : Bool} (ha : landB a = true) (hb : jumpB b = true) : pairB a b bf = true := by unfold pairB; rw [if_neg (by rw [land_not ha]; simp), if_pos ha]; exact hb
theorem inv_32 {op : Int} (h : inv op = 32) : op = 33 := by
  unfold inv at h; repeat (first | (split at h; · omega) | omega)

section
variable {c : Prg}
/-- A link, mirrored. -/
theorem link_inv (h : Ok c) {i t : Nat} (hi : i < c.length) (hp : partner c i = ((t : Int), true)) : t < c.length ∧ partner (invC c) (c.length - 1 - i : Nat) = (((c.length - 1 - t : Nat) : Int), true) := by
  have hp2 : (partner c i).2 = true := by rw [hp]
  obtain ⟨a1, a2, a3, a4, a5, a6, a7, a8, a9⟩ := partner_inv hp2
  rw [hp] at a3 a4 a5 a7 a8 a9
  simp only [Int.toNat_natCast] at a3 a4 a5 a6 a7 a8 a9
  have ht : t < c.length := by omega
  refine ⟨ht, ?_⟩
  have hops := pair_ops a9
  have n1 : ¬ ((c.getD i default).op = 30 ∨ (c.getD i default).op = 31) := by
    rcases hops with ⟨h1, _⟩ | ⟨h1, _⟩ | ⟨h1, _⟩ | ⟨h1, _⟩
    · unfold jumpB at h1; simp only [decide_eq_true_eq] at h1; omega
    · unfold landB at h1; simp only [decide_eq_true_eq] at h1; omega
    · omega
    · omega
  have n2 : ¬ ((c.getD t default).op = 30 ∨ (c.getD t default).op = 31) := by
    rcases hops with ⟨_, h1⟩ | ⟨_, h1⟩ | ⟨_, h1, _⟩ | ⟨_, h1, _⟩
    · unfold landB at h1; simp only [decide_eq_true_eq] at h1; omega
    · unfold jumpB at h1; simp only [decide_eq_true_eq] at h1; omega
    · omega
    · omega
  have hne : i ≠ t := by
    rintro rfl
    rcases hops with ⟨h1, h2⟩ | ⟨h1, h2⟩ | ⟨h1, h2, _⟩ | ⟨h1, h2, _⟩
    · rw [land_not h2] at h1; cases h1
    · rw [land_not h1] at h2; cases h2
    · omega
    · omega
  have ti : tgt (c.getD i default) = true := by unfold tgt; rw [a5]
  have tt : tgt (c.getD t default) = true := by unfold tgt; rw [a8]
  have gi := invC_get c i hi
  have gt := invC_get c t ht
  have x1 : (invI c (c.getD i default)).target = (((c.length - 1 - t : Nat) : Int), true) := by
    refine Prod.ext ?_ ?_
    · rw [invI_target c ti, invT, if_neg n1, a5]; simp only; omega
    · have := invI_tgt c (c.getD i default); unfold tgt at this ti; rw [this]; exact ti
  have x2 : (invI c (c.getD t default)).target = (((c.length - 1 - i : Nat) : Int), true) := by
    refine Prod.ext ?_ ?_
    · rw [invI_target c tt, invT, if_neg n2, a8]; simp only; omega
    · have := invI_tgt c (c.getD t default); unfold tgt at this tt; rw [this]; exact tt
  have hval : ∀ k, k < c.length → ∀ s : Int, 0 ≤ s → s < 65536 → tgt (c.getD k default) = true → ((c.getD k default).inverse.retarget s).valid = true := by
    intro k hk s h0 h1 htk
    exact ret_valid (inv_valid (h.val k hk) (h.wf k hk).op0) (inv_range _ (h.wf k hk).op0 (h.wf k hk).op1).1 (by rw [inv_tgt]; exact htk) h0 h1
  have hlen := h.len
  have v1 : (invI c (c.getD i default)).valid = true := by
    unfold invI; rw [re, if_pos (by rw [inv_tgt]; exact ti), inv_target]
    simp only [invT, if_neg n1, a5]
    exact hval i hi _ (by omega) (by omega) ti
  have v2 : (invI c (c.getD t default)).valid = true := by
    unfold invI; rw [re, if_pos (by rw [inv_tgt]; exact tt), inv_target]
    simp only [invT, if_neg n2, a8]
    exact hval t ht _ (by omega) (by omega) tt
  rw [partner_eq (invC c) (c.length - 1 - i) (by rw [invC_length]; omega) gi x1 (by rw [Int.toNat_natCast]; exact gt) x2 v1 v2]
  rw [if_neg (by rw [invC_length]; simp; omega), if_neg (by simp), if_neg (by simp), invI_op, invI_op, if_pos]
  rcases hops with ⟨h1, h2⟩ | ⟨h1, h2⟩ | ⟨h1, h2, h3⟩ | ⟨h1, h2, h3⟩
  · exact pair_mk2 (jump_inv h1) (land_inv h2)
  · exact pair_mk1 (land_inv h1) (jump_inv h2)
  · have : decide (((c.length - 1 - i : Nat) : Int) < ((c.length - 1 - t : Nat) : Int)) = false := by
      have := of_decide_eq_true h3; simp; omega
    rw [this, h1, h2]; rfl
  · have : decide (((c.length - 1 - i : Nat) : Int) < ((c.length - 1 - t : Nat) : Int)) = true := by
      have := of_decide_eq_false h3; simp; omega
    rw [this, h1, h2]; rfl

theorem proc_inv (h : Ok c) {f t : Nat} (hp : Proc c f t) : Proc (invC c) (c.length - 1 - t) (c.length - 1 - f) := by
  obtain ⟨h1, h2, h3, h4⟩ := proc_spec hp
  refine ⟨by rw [invC_length]; omega, ?_, (link_inv h h2 h4).2⟩
  rw [invC_get c t h2, invI_op, h3]; rfl
theorem proc_back (h : Ok c) {f' t' : Nat} (hp : Proc (invC c) f' t') : ∃ f t, Proc c f t ∧ f' = c.length - 1 - t ∧ t' = c.length - 1 - f := by
  have hf : f' < c.length := by have := hp.1; rwa [invC_length] at this
  obtain ⟨e, he, rfl⟩ : ∃ e, e < c.length ∧ f' = c.length - 1 - e := ⟨c.length - 1 - f', by omega, by omega⟩
  have hop := hp.2.1
  rw [invC_get c e he, invI_op] at hop
  have h33 := inv_32 hop
  have ht : tgt (c.getD e default) = true := by rw [tgt_ops, decide_eq_true_eq, h33]; omega
  obtain ⟨s, s1, s2, s3⟩ := h.link e he ht (by rw [h33]; omega)
  have hp2 : (partner c e).2 = true := by rw [s3]
  obtain ⟨_, _, _, _, a5, a6, a7, a8, a9⟩ := partner_inv hp2
  rw [s3] at a5 a7 a8 a9
  simp only [Int.toNat_natCast] at a5 a6 a7 a8 a9
  rw [h33] at a9
  obtain ⟨b1, b2⟩ := pair_33 a9
  have hse : s < e := by
    have h1 := of_decide_eq_false b2
    rcases Nat.lt_trichotomy s e with h | h | h
    · exact h
    · subst h; rw [h33] at b1; cases b1
    · omega
  have hps : Proc c s e := by
    refine ⟨s1, b1, ?_⟩
    rw [partner_eq c s s1 rfl a8 (by rw [Int.toNat_natCast]) a5 a7 a6]
    rw [if_neg (by simp; omega), if_neg (by simp), if_neg (by simp), b1, h33]
    have : decide ((s : Int) < (e : Int)) = true := by simp; omega
    rw [this]; rfl
  refine ⟨s, e, hps, rfl, ?_⟩
  have := (proc_inv h hps).2.2.symm.trans hp.2.2
  simp at this
  omega

theorem disj_inv (h : Ok c) : Disj (invC c) := by
  intro f t f' t' hp hp' h1 h2
  obtain ⟨a, b, hab, rfl, rfl⟩ := proc_back h hp
  obtain ⟨a', b', hab', rfl, rfl⟩ := proc_back h hp'
  obtain ⟨p1, p2, _⟩ := proc_spec hab
  obtain ⟨q1, q2, _⟩ := proc_spec hab'
  have e1 : b < b' := by omega
  have e2 : a' ≤ b := by omega
  rcases Nat.lt_trichotomy a' a with e | e | e
  · exact h.disj a b a' b' hab hab' e (by omega)
  · subst e
    have := hab.2.2.symm.trans hab'.2.2
    simp at this; omega
  · exact h.disj a' b' a b hab' hab e e2

theorem inv_wf (h : Ok c) : CodeWf (invC c) := by
  intro k hk
  rw [invC_length] at hk
  obtain ⟨i, hi, rfl⟩ : ∃ i, i < c.length ∧ k = c.length - 1 - i := ⟨c.length - 1 - k, by omega, by omega⟩
  rw [invC_get c i hi]
  have w := h.wf i hi
  have hr := inv_range _ w.op0 w.op1
  have hlen := h.len
  unfold invI re
  split
  · rename_i ht
    rw [inv_tgt] at ht
    rw [inv_target]
    have hb : -9223372036854775808 ≤ (c.length : Int) - 1 - invT c (c.getD i default) (c.getD i default).target.1 ∧ (c.length : Int) - 1 - invT c (c.getD i default) (c.getD i default).target.1 ≤ 9223372036854775807 := by
      by_cases hop : (c.getD i default).op = 30 ∨ (c.getD i default).op = 31
      · obtain ⟨s, e, s1, s2⟩ := h.call i hi hop
        obtain ⟨p1, p2, p3, p4⟩ := proc_spec s2
        have ha : (partner c s).2 = true := by rw [s2.2.2]
        obtain ⟨_, _, _, _, a5, _⟩ := partner_inv ha
        rw [s2.2.2, Int.toNat_natCast] at a5
        have : (c.getD s default).a = (e : Int) := by
          have := congrArg Prod.fst a5
          unfold Ins.target targetP at this
          rw [if_pos (by rw [s2.2.1]; omega)] at this
          exact this
        rw [invT, if_pos hop, s1, Int.toNat_natCast, this]; omega
      · obtain ⟨t, t1, t2, t3⟩ := h.link i hi ht hop
        rw [invT, if_neg hop, t2]; omega
    simp only
    generalize (c.length : Int) - 1 - invT c (c.getD i default) (c.getD i default).target.1 = s at *
    have ha : -9223372036854775808 ≤ retA (inv (c.getD i default).op) (c.getD i default).a s ∧ retA (inv (c.getD i default).op) (c.getD i default).a s ≤ 9223372036854775807 := by
      unfold retA; have := w.a0; have := w.a1; split <;> omega
    have hb2 : -9223372036854775808 ≤ retB (inv (c.getD i default).op) (c.getD i default).b s ∧ retB (inv (c.getD i default).op) (c.getD i default).b s ≤ 9223372036854775807 := by
      unfold retB; have := w.b0; have := w.b1; split <;> omega
    exact ⟨hr.1, hr.2, ha.1, ha.2, hb2.1, hb2.2, w.c0, w.c1, w.d0, w.d1⟩
  · exact ⟨hr.1, hr.2, w.a0, w.a1, w.b0, w.b1, w.c0, w.c1, w.d0, w.d1⟩

/-- The end of a procedure that is called. -/
theorem call_end (h : Ok c) {i : Nat} (hi : i < c.length) (hop : (c.getD i default).op = 30 ∨ (c.getD i default).op = 31) : ∃ s e : Nat, (c.getD i default).target.1 = (s : Int) ∧ Proc c s e ∧ (c.getD s default).a = (e : Int) ∧ invT c (c.getD i default) (c.getD i default).target.1 = (e : Int) := by
  obtain ⟨s, e, s1, s2⟩ := h.call i hi hop
  have ha : (partner c s).2 = true := by rw [s2.2.2]
  obtain ⟨_, _, _, _, a5, _⟩ := partner_inv ha
  rw [s2.2.2, Int.toNat_natCast] at a5
  have e1 : (c.getD s default).a = (e : Int) := by
    have := congrArg Prod.fst a5
    unfold Ins.target targetP at this
    rw [if_pos (by rw [s2.2.1]; omega)] at this
    exact this
  exact ⟨s, e, s1, s2, e1, by rw [invT, if_pos hop, s1, Int.toNat_natCast, e1]⟩

/-- THE INVERSE OF VALID CODE IS VALID. -/
theorem inv_ok (h : Ok c) : Ok (invC c) := by
  have ix : ∀ k, k < (invC c).length → ∃ i, i < c.length ∧ k = c.length - 1 - i := by
    intro k hk; rw [invC_length] at hk; exact ⟨c.length - 1 - k, by omega, by omega⟩
  have hlen := h.len
  have hT : ∀ i, i < c.length → tgt (c.getD i default) = true → 0 ≤ invT c (c.getD i default) (c.getD i default).target.1 ∧ invT c (c.getD i default) (c.getD i default).target.1 < c.length := by
    intro i hi ht
    by_cases hop : (c.getD i default).op = 30 ∨ (c.getD i default).op = 31
    · obtain ⟨s, e, _, s2, _, e2⟩ := call_end h hi hop
      obtain ⟨p1, p2, _⟩ := proc_spec s2
      rw [e2]; omega
    · obtain ⟨t, t1, t2, t3⟩ := h.link i hi ht hop
      rw [invT, if_neg hop, t2]; omega
  refine ⟨inv_wf h, by rw [invC_length]; exact h.len, ?_, ?_, ?_, disj_inv h, ?_⟩
  · intro k hk
    obtain ⟨i, hi, rfl⟩ := ix k hk
    rw [invC_get c i hi]
    unfold invI re
    have w := h.wf i hi
    have v := inv_valid (h.val i hi) w.op0
    split
    · rename_i ht
      rw [inv_tgt] at ht
      obtain ⟨b1, b2⟩ := hT i hi ht
      rw [inv_target]
      simp only
      exact ret_valid v (inv_range _ w.op0 w.op1).1 (by rw [inv_tgt]; exact ht) (by omega) (by omega)
    · exact v
  · intro k hk hop
    obtain ⟨i, hi, rfl⟩ := ix k hk
    rw [invC_get c i hi] at hop ⊢
    rw [invI_op] at hop
    have hop' : (c.getD i default).op = 30 ∨ (c.getD i default).op = 31 := by
      revert hop; unfold inv; repeat (first | (split; · omega) | omega)
    obtain ⟨s, e, s1, s2, _, e2⟩ := call_end h hi hop'
    obtain ⟨p1, p2, _⟩ := proc_spec s2
    refine ⟨c.length - 1 - e, c.length - 1 - s, ?_, proc_inv h s2⟩
    rw [invI_target c (by rw [tgt_ops, decide_eq_true_eq]; omega), e2]; omega
  · intro k hk ht hop
    obtain ⟨i, hi, rfl⟩ := ix k hk
    rw [invC_get c i hi] at ht hop ⊢
    rw [invI_tgt] at ht
    have hop' : ¬ ((c.getD i default).op = 30 ∨ (c.getD i default).op = 31) := by
      rw [invI_op] at hop
      intro h1; apply hop
      rcases h1 with h1 | h1 <;> rw [h1]
      · exact .inl rfl
      · exact .inr rfl
    obtain ⟨t, t1, t2, t3⟩ := h.link i hi ht hop'
    refine ⟨c.length - 1 - t, by rw [invC_length]; omega, ?_, (link_inv h hi t3).2⟩
    rw [invI_target c ht, invT, if_neg hop', t2]; omega
  · intro k hk hj
    obtain ⟨i, hi, rfl⟩ := ix k hk
    rw [invC_get c i hi] at hj ⊢
    rw [invI_op] at hj
    have hj' : jumpB (c.getD i default).op = true ∨ landB (c.getD i default).op = true := by
      revert hj; unfold jumpB landB inv; simp only [decide_eq_true_eq]
      repeat (first | (split; · omega) | omega)
    have hop : ¬ ((c.getD i default).op = 30 ∨ (c.getD i default).op = 31) := by
      unfold jumpB landB at hj'; simp only [decide_eq_true_eq] at hj'; omega
    have ht : tgt (c.getD i default) = true := by
      rw [tgt_ops, decide_eq_true_eq]; unfold jumpB landB at hj'; simp only [decide_eq_true_eq] at hj'; omega
    obtain ⟨t, t1, t2, t3⟩ := h.link i hi ht hop
    have ha := h.area i hi hj'
    rw [t2, Int.toNat_natCast] at ha
    rw [invI_target c ht, invT, if_neg hop, t2]
    have e : ((c.length : Int) - 1 - (t : Int)).toNat = c.length - 1 - t := by omega
    rw [e, region_same (disj_inv h) (by rw [invC_length]; omega) (by rw [invC_length]; omega)]
    intro f u hp
    obtain ⟨a, b, hab, rfl, rfl⟩ := proc_back h hp
    obtain ⟨p1, p2, _⟩ := proc_spec hab
    have := (region_same h.disj hi t1).1 ha a b hab
    omega

theorem ok_good (h : Ok c) : Good c ∧ Plain c := by
  have at_ : ∀ x ∈ c, ∃ k, k < c.length ∧ c.getD k default = x := by
    intro x hx
    obtain ⟨k, hk, e⟩ := List.getElem_of_mem hx
    exact ⟨k, hk, by simp [List.getD_eq_getElem?_getD, hk, e]⟩
  refine ⟨fun x hx ht => ?_, fun x hx _ => ?_⟩
  · obtain ⟨i, hi, rfl⟩ := at_ x hx
    by_cases hop : (c.getD i default).op = 30 ∨ (c.getD i default).op = 31
    · obtain ⟨s, e, s1, s2⟩ := h.call i hi hop
      refine ⟨s, s1, s2.1, ?_⟩
      unfold ctl ctlB; rw [s2.2.1]; decide
    · obtain ⟨t, t1, t2, t3⟩ := h.link i hi ht hop
      have ha : (partner c i).2 = true := by rw [t3]
      obtain ⟨_, _, _, _, _, _, _, a8, _⟩ := partner_inv ha
      rw [t3, Int.toNat_natCast] at a8
      exact ⟨t, t2, t1, tgt_ctl (by unfold tgt; rw [a8])⟩
  · obtain ⟨i, hi, rfl⟩ := at_ x hx
    exact h.val i hi
end

/-- Inverse and labels. -/
theorem re_inverse (f : Int → Int) (x : Ins) : (re f x).inverse = re f x.inverse := by
  unfold re
  rw [inv_tgt, inv_target]
  split
  · unfold Ins.retarget Ins.inverse retA retB
    simp only
    have h1 : (inv x.op = 22 ∨ inv x.op = 25 ∨ inv x.op = 30 ∨ inv x.op = 31 ∨ inv x.op = 32 ∨ inv x.op = 33) ↔ (x.op = 22 ∨ x.op = 25 ∨ x.op = 30 ∨ x.op = 31 ∨ x.op = 32 ∨ x.op = 33) := by
      unfold inv; repeat (first | (split; · omega) | omega)
    have h2 : (inv x.op = 23 ∨ inv x.op = 24 ∨ inv x.op = 26 ∨ inv x.op = 27) ↔ (x.op = 23 ∨ x.op = 24 ∨ x.op = 26 ∨ x.op = 27) := by
      unfold inv; repeat (first | (split; · omega) | omega)
    simp only [h1, h2]
  · rfl

theorem cnt_filter (l : Prg) : cnt l l.length = (l.filter ctl).length := by
  induction l with
  | nil => rfl
  | cons x l ih => simp only [List.length_cons, cnt, ih, List.filter_cons]; split <;> simp <;> omega
theorem filter_get : ∀ (l : Prg) (t : Nat), t < l.length → ctl (l.getD t default) = true → cnt l t < (l.filter ctl).length ∧ (l.filter ctl).getD (cnt l t) default = l.getD t default
  | [], t, h, _ => by simp at h
  | x :: l, 0, h, hc => by
    have hx : ctl x = true := by simpa using hc
    simp [cnt, hx]
  | x :: l, t + 1, h, hc => by
    obtain ⟨h1, h2⟩ := filter_get l t (by simpa using h) (by simpa using hc)
    simp only [cnt, List.filter_cons]
    by_cases hx : ctl x = true
    · simp only [hx, if_true, List.length_cons]
      refine ⟨by omega, ?_⟩
      rw [Nat.add_comm 1]
      simpa using h2
    · simp only [hx]
      simpa using ⟨h1, h2⟩
theorem cnt_rev (g : Ins → Ins) (hg : ∀ x, ctl (g x) = ctl x) : ∀ (l : Prg) (t : Nat), t < l.length → ctl (l.getD t default) = true → cnt (l.map g).reverse (l.length - 1 - t) + cnt l t + 1 = (l.filter ctl).length
  | [], t, h, _ => by simp at h
  | x :: l, 0, h, hc => by
    have hx : ctl x = true := by simpa using hc
    have e1 : ((x :: l).map g).reverse = (l.map g).reverse ++ [g x] := by simp
    rw [e1, cnt_append, if_pos (by simp)]
    have e2 : (x :: l).length - 1 - 0 = (l.map g).reverse.length := by simp
    rw [e2, cnt_filter]
    simp only [cnt, List.filter_cons, hx, if_true, List.length_cons]
    rw [List.filter_reverse, List.length_reverse, List.filter_map, List.length_map]
    have : (ctl ∘ g) = ctl := by funext x; exact hg x
    rw [this]
  | x :: l, t + 1, h, hc => by
    have ih := cnt_rev g hg l t (by simpa using h) (by simpa using hc)
    have e1 : ((x :: l).map g).reverse = (l.map g).reverse ++ [g x] := by simp
    have e2 : (x :: l).length - 1 - (t + 1) = l.length - 1 - t := by simp; omega
    rw [e1, e2, cnt_append, if_pos (by simp; omega)]
    simp only [cnt, List.filter_cons]
    split <;> simp <;> omega

/-- The inverse, on labels: it looks at the control instructions alone. -/
def invG (K : Prg) (x : Ins) : Ins := re (fun q => (K.length : Int) - 1 - (if x.op = 30 ∨ x.op = 31 then (K.getD q.toNat default).a else q)) x.inverse
def invL (l : Prg) : Prg := (l.map (invG (l.filter ctl))).reverse
theorem invG_ctl (K : Prg) (x : Ins) : ctl (invG K x) = ctl x := by unfold invG; rw [re_ctl, inv_ctl]
theorem invG_plain (K : Prg) {x : Ins} (h : ctl x = false) : invG K x = x.inverse := by
  unfold invG re; rw [if_neg]
  rw [inv_tgt]
  intro ht
  have := tgt_ctl ht; unfold ctl at h; rw [h] at this; cases this
theorem inv_inv_plain (x : Ins) (h : ctl x = false) : x.inverse.inverse = x := by
  obtain ⟨op, a, b, c, d⟩ := x
  unfold ctl at h
  have h2 := (rinv_spec op a b c d h)
  unfold Ins.inverse
  simp only
  rw [← rinv_eq op h, ← rinv_eq (rinv op) h2.2.1, h2.2.2]
theorem cancels_inverse {x y : Ins} (h : cancels x y = true) (h0 : 0 ≤ x.op) : cancels y.inverse x.inverse = true := by
  obtain ⟨h1, h2, h3⟩ := cancels_iff.1 h
  have e1 : y = x.inverse := by rw [h3]; unfold Ins.inverse; rw [rinv_eq x.op h2]
  have e2 : y.inverse = x := by rw [e1]; exact inv_inv_plain x h2
  rw [e2, ← e1]; exact h
theorem invG_cancels (K : Prg) {x y : Ins} (h0 : 0 ≤ x.op) (h1 : 0 ≤ y.op) : cancels (invG K y) (invG K x) = cancels x y := by
  cases hc : cancels x y with
  | true =>
    obtain ⟨a, b⟩ := cancels_ctl hc
    rw [invG_plain K (x := y) b, invG_plain K (x := x) a]
    exact cancels_inverse hc h0
  | false =>
    cases hd : cancels (invG K y) (invG K x) with
    | false => rfl
    | true =>
      obtain ⟨a, b⟩ := cancels_ctl hd
      have cy : ctl y = false := by rw [← invG_ctl K]; exact a
      have cx : ctl x = false := by rw [← invG_ctl K]; exact b
      rw [invG_plain K cy, invG_plain K cx] at hd
      obtain ⟨d1, d2, d3⟩ := cancels_iff.1 hd
      have e : x.inverse = y.inverse.inverse := by
        have e0 : rinv (inv y.op) = inv (inv y.op) := rinv_eq _ d2
        rw [d3]; unfold Ins.inverse; simp only [e0]
      have e2 : x = y.inverse := by
        have := congrArg Ins.inverse e
        rw [inv_inv_plain x cx, inv_inv_plain y cy] at this
        exact this
      rw [inv_inv_plain y cy] at e
      have := cancels_symm hd
      rw [e, ← e2] at this
      have h3 := cancels_symm this
      rw [h3] at hc; cases hc

theorem nf_rev (g : Ins → Ins) (hg : ∀ x y, 0 ≤ x.op → 0 ≤ y.op → cancels (g y) (g x) = cancels x y) : ∀ (l s : List Ins), (∀ x ∈ l, 0 ≤ x.op) → (∀ x ∈ s, 0 ≤ x.op) → nf (((s.reverse ++ l).map g).reverse) = nf (((red s l).reverse.map g).reverse)
  | [], s, _, _ => by rw [red_nil, List.append_nil]
  | x :: l, s, hl, hs => by
    rw [red_cons]
    have h1 : ∀ z ∈ push s x, 0 ≤ z.op := by
      intro z hz
      cases s with
      | nil => rw [push_nil] at hz; simp at hz; subst hz; exact hl _ (by simp)
      | cons p s =>
        rw [push_cons] at hz
        split at hz
        · exact hs z (by simp [hz])
        · rcases List.mem_cons.1 hz with rfl | hz
          · exact hl _ (by simp)
          · exact hs z hz
    rw [← nf_rev g hg l (push s x) (fun z hz => hl z (by simp [hz])) h1]
    cases s with
    | nil => rw [push_nil]; rfl
    | cons p s =>
      rw [push_cons]
      split
      · rename_i hc
        have e : (((p :: s).reverse ++ x :: l).map g).reverse = (l.map g).reverse ++ g x :: g p :: (s.map g) := by simp
        have e2 : ((s.reverse ++ l).map g).reverse = (l.map g).reverse ++ s.map g := by simp
        rw [e, e2]
        exact nf_pair (by rw [hg p x (hs p (by simp)) (hl x (by simp))]; exact hc)
      · congr 1
        simp

theorem noPair_rev (g : Ins → Ins) (hg : ∀ x y, 0 ≤ x.op → 0 ≤ y.op → cancels (g y) (g x) = cancels x y) {l : Prg} (hl : ∀ x ∈ l, 0 ≤ x.op) (h : NoPair l) : NoPair ((l.map g).reverse) := by
  intro k hk
  have hk' : k + 1 < l.length := by simpa using hk
  have at_ : ∀ j, j < l.length → ((l.map g).reverse).getD j default = g (l.getD (l.length - 1 - j) default) := by
    intro j hj
    rw [List.getD_eq_getElem?_getD, List.getElem?_reverse (by simpa using hj)]
    have : l.length - 1 - j < l.length := by omega
    simp [List.getD_eq_getElem?_getD, this]
  rw [at_ k (by omega), at_ (k + 1) hk', hg _ _ (hl _ (mem_getD (by omega))) (hl _ (mem_getD (by omega)))]
  have := h (l.length - 1 - (k + 1)) (by omega)
  have e : l.length - 1 - (k + 1) + 1 = l.length - 1 - k := by omega
  rw [e] at this
  exact this

theorem nf_invL {l : Prg} (hl : ∀ x ∈ l, 0 ≤ x.op) : nf (invL l) = invL (nf l) := by
  have hf : (nf l).filter ctl = l.filter ctl := nf_filter (fun x h => h) l
  unfold invL
  rw [hf]
  have hg := fun x y h0 h1 => @invG_cancels (l.filter ctl) x y h0 h1
  have := nf_rev (invG (l.filter ctl)) hg l [] hl (by simp)
  simp only [List.reverse_nil, List.nil_append] at this
  rw [this]
  show nf (((nf l).map (invG (l.filter ctl))).reverse) = _
  exact nf_noPair (noPair_rev _ hg (fun x hx => hl x (nf_mem l x hx)) (nf_noPairs l))

theorem lab_invC {c : Prg} (h : Ok c) : Lab (invC c) = invL (Lab c) := by
  obtain ⟨hg, _⟩ := ok_good h
  have at_ : ∀ x ∈ c, ∃ k, k < c.length ∧ c.getD k default = x := by
    intro x hx
    obtain ⟨k, hk, e⟩ := List.getElem_of_mem hx
    exact ⟨k, hk, by simp [List.getD_eq_getElem?_getD, hk, e]⟩
  have hK : ((Lab c).filter ctl).length = (c.filter ctl).length := by
    rw [← cnt_filter, ← cnt_filter]
    unfold Lab
    rw [cnt_re, List.length_map]
  have hctl : ∀ x, ctl (invI c x) = ctl x := fun x => by unfold invI; rw [re_ctl, inv_ctl]
  have key : ∀ t, t < c.length → ctl (c.getD t default) = true → lab (invC c) ((c.length : Int) - 1 - (t : Int)) = ((c.filter ctl).length : Int) - 1 - lab c (t : Int) := by
    intro t ht hc
    have e : ((c.length : Int) - 1 - (t : Int)).toNat = c.length - 1 - t := by omega
    unfold lab
    rw [e, Int.toNat_natCast]
    have := cnt_rev (invI c) hctl c t ht hc
    unfold invC
    omega
  unfold invL
  conv => lhs; unfold Lab
  conv => lhs; arg 2; unfold invC
  rw [List.map_reverse]
  congr 1
  unfold Lab
  rw [List.map_map, List.map_map]
  refine List.map_congr_left fun x hx => ?_
  rw [Function.comp_apply, Function.comp_apply]
  show re (lab (invC c)) (invI c x) = invG ((Lab c).filter ctl) (re (lab c) x)
  unfold invI invG
  rw [re_inverse, re_re, re_re, re_op]
  refine re_congr fun ht => ?_
  rw [inv_tgt] at ht
  rw [inv_target]
  obtain ⟨i, hi, rfl⟩ := at_ x hx
  simp only [hK]
  by_cases hop : (c.getD i default).op = 30 ∨ (c.getD i default).op = 31
  · obtain ⟨s, e, s1, s2, s3, s4⟩ := call_end h hi hop
    obtain ⟨p1, p2, p3, p4⟩ := proc_spec s2
    have cs : ctl (c.getD s default) = true := by unfold ctl ctlB; rw [s2.2.1]; decide
    have ce : ctl (c.getD e default) = true := by unfold ctl ctlB; rw [p3]; decide
    rw [s4, key e p2 ce, if_pos hop, s1]
    congr 1
    simp only [lab, Int.toNat_natCast]
    have hf := filter_get (Lab c) s (by unfold Lab; rw [List.length_map]; exact s2.1) (by unfold Lab; rw [getD_re _ _ _ s2.1, re_ctl]; exact cs)
    have e1 : cnt (Lab c) s = cnt c s := by unfold Lab; rw [cnt_re]
    rw [e1] at hf
    rw [hf.2]
    unfold Lab
    rw [getD_re _ _ _ s2.1]
    have tt : tgt (c.getD s default) = true := by rw [tgt_ops, decide_eq_true_eq, s2.2.1]; omega
    rw [re, if_pos tt]
    unfold Ins.retarget retA
    simp only
    rw [if_pos (by rw [s2.2.1]; omega)]
    have : (c.getD s default).target.1 = (e : Int) := by
      unfold Ins.target targetP
      rw [if_pos (by rw [s2.2.1]; omega)]
      exact s3
    rw [this]; rfl
  · obtain ⟨t, e1, e2, e3⟩ := hg _ hx ht
    rw [invT, if_neg hop, if_neg hop, e1, key t e2 e3]

/-- TO OPTIMIZE THE INVERSE IS TO INVERT THE OPTIMIZED CODE. -/
theorem opt_inv {im : Img} (h : im.check.2 = 0) (hw : CodeWf im.code) : optCode (invC im.code) = invC (optCode im.code) ∧ ({ im with code := invC im.code } : Img).check.2 = 0 ∧ CodeWf (invC im.code) := by
  have hk := ok_of h hw
  obtain ⟨hs, _⟩ := check_fault h
  have hik := inv_ok hk
  have hv : ({ im with code := invC im.code } : Img).check.2 = 0 := ok_check (by unfold Img.sized at hs ⊢; simp [invC_length] at hs ⊢; exact hs) hik
  have hov := opt_valid h hw
  have how : CodeWf (optCode im.code) := optCode_wf hw hk.len
  have hok := ok_of hov how
  obtain ⟨g1, _⟩ := ok_good hk
  obtain ⟨g2, _⟩ := ok_good hik
  obtain ⟨o1, o2⟩ := opt_good g1
  obtain ⟨p1, p2⟩ := opt_good g2
  refine ⟨lab_inj p1 (ok_good (inv_ok hok)).1 ?_, hv, hik.wf⟩
  rw [p2, lab_invC hk, lab_invC hok, nf_invL, o2]
  intro x hx
  unfold Lab at hx
  obtain ⟨y, hy, rfl⟩ := List.mem_map.1 hx
  rw [re_op]
  obtain ⟨k, hk', e⟩ := List.getElem_of_mem hy
  have := (hw k hk').op0
  simpa [List.getD_eq_getElem?_getD, hk', e] using this
end Bk
