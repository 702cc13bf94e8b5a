/- Plain: the optimized image is valid; its instructions do not cancel; to optimize it again changes nothing. -/
import Derived.Test.YtfobnkgfbdmakaaDoorOptP
import Derived.Test.YtfobnkgfbdmakaaDoorEmb
set_option linter.unusedVariables false
namespace Bk

theorem fault_ok {code : Prg} {k : Nat} (h : fault code k = 0) : (code.getD k default).valid = true := (fault_zero h).1

/-- An image is valid if its sizes are and no instruction is at fault. -/
theorem check_of {im : Img} (hs : im.sized = true) (hf : ∀ k, k < im.code.length → fault im.code k = 0) : im.check.2 = 0 := by
  unfold Img.check
  rw [if_pos hs, checkFrom_all im.code _ hf]

theorem keepAt_sorted (c : Prg) (i : Nat) : (keepAt c i).Pairwise (· > ·) := by
  induction i with
  | zero => simp [keepAt]
  | succ i ih =>
    rw [keepAt]
    have hlt := keepAt_lt c i
    cases hk : keepAt c i with
    | nil => simp
    | cons k rest =>
      rw [hk] at ih hlt
      simp only
      split
      · exact (List.pairwise_cons.1 ih).2
      · exact List.pairwise_cons.2 ⟨fun x hx => hlt x hx, ih⟩

/-- The indices of the kept instructions, as a map that rises everywhere. -/
def keptF (c : Prg) (j : Nat) : Nat := if j < (kept c).length then (kept c).getD j 0 else c.length + (j - (kept c).length)
theorem kept_sorted (c : Prg) : ∀ a b, a < b → b < (kept c).length → (kept c).getD a 0 < (kept c).getD b 0 := by
  intro a b hab hb
  have h : (kept c).Pairwise (· < ·) := by
    unfold kept
    rw [List.pairwise_reverse]
    exact keepAt_sorted c _
  have := List.pairwise_iff_getElem.1 h a b (by omega) hb hab
  simpa [List.getD_eq_getElem?_getD, show a < (kept c).length by omega, hb] using this
theorem kept_at (c : Prg) (j : Nat) (h : j < (kept c).length) : (kept c).getD j 0 < c.length := by
  have := kept_lt c ((kept c)[j]) (List.getElem_mem h)
  simpa [List.getD_eq_getElem?_getD, h] using this
theorem keptF_mono (c : Prg) : ∀ a b, a < b → keptF c a < keptF c b := by
  intro a b hab
  unfold keptF
  by_cases hb : b < (kept c).length
  · rw [if_pos (by omega), if_pos hb]; exact kept_sorted c a b hab hb
  · rw [if_neg hb]
    by_cases ha : a < (kept c).length
    · rw [if_pos ha]; have := kept_at c a ha; omega
    · rw [if_neg ha]; omega

theorem optCode_get (c : Prg) (j : Nat) (h : j < (kept c).length) : (optCode c).getD j default = relink c (kept c) ((kept c).getD j 0) := by
  simp [optCode, List.getD_eq_getElem?_getD, h]
theorem relink_re (c : Prg) (kl : List Nat) (k : Nat) : relink c kl k = re (fun t => idxA kl kl.length t.toNat) (c.getD k default) := rfl
theorem mem_getD {c : Prg} {k : Nat} (h : k < c.length) : c.getD k default ∈ c := by
  rw [List.getD_eq_getElem?_getD, List.getElem?_eq_getElem h]; exact List.getElem_mem h
theorem relink_op (c : Prg) (kl : List Nat) (k : Nat) : (relink c kl k).op = (c.getD k default).op := by unfold relink; split <;> rfl

/-- Every control instruction is kept. -/
theorem kept_ctl {c : Prg} {t : Nat} (ht : t < c.length) (hc : ctl (c.getD t default) = true) : (keepAt c t).length < (kept c).length ∧ (kept c).getD (keepAt c t).length 0 = t := by
  obtain ⟨R, e, hR⟩ := keepAt_split c t hc c.length ht
  have ek : kept c = (keepAt c t).reverse ++ t :: R.reverse := by unfold kept; rw [e]; simp
  rw [ek]
  refine ⟨by simp, ?_⟩
  rw [List.getD_eq_getElem?_getD, List.getElem?_append_right (by simp)]; simp

theorem idx_valid {op a b c d t : Int} (h : validB op a b c d = true) (hop : 0 ≤ op) (ht : tgt ⟨op, a, b, c, d⟩ = true) (h0 : 0 ≤ t) (h1 : t < 65536) : validB op (retA op a t) (retB op b t) c d = true := by
  rw [tgt_ops, decide_eq_true_eq] at ht
  simp only at ht
  have hidx : idxB t = true := by unfold idxB; rw [decide_eq_true_eq]; omega
  rcases ht with (rfl | rfl | rfl | rfl | rfl | rfl) | rfl | rfl | rfl | rfl
  all_goals
    simp [validB, zerosB, shapeB, arity, retA, retB, hidx] at h ⊢
    try (obtain ⟨h1, h2⟩ := h; simp_all)
theorem ret_valid {x : Ins} (h : x.valid = true) (hop : 0 ≤ x.op) (ht : tgt x = true) {t : Int} (h0 : 0 ≤ t) (h1 : t < 65536) : (x.retarget t).valid = true := by
  obtain ⟨op, a, b, c, d⟩ := x
  exact idx_valid h hop ht h0 h1

/-- The optimized code lies in the code. -/
theorem opt_emb {im : Img} (h : im.check.2 = 0) (hw : CodeWf im.code) : Emb (keptF im.code) (optCode im.code) im.code := by
  obtain ⟨hs, hf⟩ := check_fault h
  obtain ⟨hg, hp⟩ := valid_good h
  have hlen : im.code.length ≤ 65536 := by
    unfold Img.sized at hs; simp at hs; omega
  have hkl := kept_length im.code
  have hF : ∀ j, j < (optCode im.code).length → keptF im.code j = (kept im.code).getD j 0 ∧ j < (kept im.code).length := by
    intro j hj
    rw [optCode_length] at hj
    exact ⟨by unfold keptF; rw [if_pos hj], hj⟩
  have hv : ∀ j, j < (optCode im.code).length → (im.code.getD (keptF im.code j) default).valid = true := by
    intro j hj
    obtain ⟨e, hj'⟩ := hF j hj
    rw [e]; exact fault_ok (hf _ (kept_at _ j hj'))
  have hit : ∀ j, j < (optCode im.code).length → tgt (im.code.getD (keptF im.code j) default) = true → ∃ t, t < (optCode im.code).length ∧ ((optCode im.code).getD j default).target.1 = (t : Nat) ∧ (im.code.getD (keptF im.code j) default).target.1 = (keptF im.code t : Nat) ∧ (optCode im.code).getD j default = (im.code.getD (keptF im.code j) default).retarget (t : Nat) := by
    intro j hj ht
    obtain ⟨e, hj'⟩ := hF j hj
    rw [e] at ht ⊢
    have hk := kept_at im.code j hj'
    obtain ⟨t, ht1, ht2, ht3⟩ := hg (im.code.getD ((kept im.code).getD j 0) default) (mem_getD hk) ht
    obtain ⟨q1, q2⟩ := kept_ctl ht2 ht3
    obtain ⟨i1, _⟩ := idx_ctl im.code t ht2 ht3
    have er : (optCode im.code).getD j default = (im.code.getD ((kept im.code).getD j 0) default).retarget ((keepAt im.code t).length : Nat) := by
      rw [optCode_get _ j hj']
      rw [relink_re, re, if_pos ht, ht1, Int.toNat_natCast, i1]
    refine ⟨(keepAt im.code t).length, by rw [optCode_length]; exact q1, ?_, ?_, er⟩
    · rw [er, ret_target ht]
    · rw [ht1]; unfold keptF; rw [if_pos q1, q2]
  have htg : ∀ j, j < (optCode im.code).length → (im.code.getD (keptF im.code j) default).target.2 = ((optCode im.code).getD j default).target.2 := by
    intro j hj
    obtain ⟨e, hj'⟩ := hF j hj
    have := tgt_ops (im.code.getD (keptF im.code j) default)
    have h2 := tgt_ops ((optCode im.code).getD j default)
    rw [optCode_get _ j hj', relink_op, ← e] at h2
    unfold tgt at this h2
    rw [this]; rw [optCode_get _ j hj', ← e]; exact h2.symm
  refine ⟨keptF_mono im.code, ?_, ?_, ?_, htg, ?_, ?_⟩
  · intro j
    rw [optCode_length]
    unfold keptF
    by_cases hj : j < (kept im.code).length
    · rw [if_pos hj]; have := kept_at im.code j hj; omega
    · rw [if_neg hj]; omega
  · intro j hj
    obtain ⟨e, hj'⟩ := hF j hj
    rw [optCode_get _ j hj', relink_op, e]
  · intro j hj
    obtain ⟨e, hj'⟩ := hF j hj
    rw [hv j hj]
    by_cases ht : tgt (im.code.getD (keptF im.code j) default) = true
    · obtain ⟨t, t1, _, _, t4⟩ := hit j hj ht
      rw [t4]
      rw [optCode_length] at t1
      exact (ret_valid (hv j hj) ((hw _ (by rw [e]; exact kept_at _ j hj')).op0) ht (by omega) (by omega)).symm
    · have hvj := hv j hj
      rw [e] at hvj ht
      rw [optCode_get _ j hj']
      rw [relink_re, re, if_neg ht]; exact hvj.symm
  · intro j hj ht
    obtain ⟨t, t1, t2, t3, _⟩ := hit j hj (by unfold tgt; rw [htg j hj]; exact ht)
    exact ⟨t, t1, t2, t3⟩
  · intro i hi hno
    cases hti : (im.code.getD i default).target.2 with
    | false => rfl
    | true =>
      have hc : ctl (im.code.getD i default) = true := tgt_ctl hti
      obtain ⟨q1, q2⟩ := kept_ctl hi hc
      exact absurd (by unfold keptF; rw [if_pos q1, q2]) (hno (keepAt im.code i).length)

/-- THE OPTIMIZED IMAGE IS VALID. -/
theorem opt_valid {im : Img} (h : im.check.2 = 0) (hw : CodeWf im.code) : ({ im with code := optCode im.code } : Img).check.2 = 0 := by
  have E := opt_emb h hw
  obtain ⟨hs, hf⟩ := check_fault h
  refine check_of ?_ fun k hk => ?_
  · have := optCode_length im.code
    have := kept_length im.code
    unfold Img.sized at hs ⊢
    simp at hs ⊢; omega
  · rw [← E.fault_at hk]; exact hf _ ((E.len k).1 hk)
theorem opt_noPair {c : Prg} : NoPair (optCode c) := by
  rw [optCode_eq]; exact noPair_re _ (nf_noPairs c)

/-- Code without pairs is kept whole. -/
theorem keepAt_all {c : Prg} (h : NoPair c) : ∀ i, i ≤ c.length → keepAt c i = (List.range i).reverse := by
  intro i
  induction i with
  | zero => intro _; rfl
  | succ i ih =>
    intro hi
    rw [keepAt, ih (by omega), List.range_succ, List.reverse_append]
    cases i with
    | zero => rfl
    | succ i =>
      rw [List.range_succ, List.reverse_append]
      have := h i (by omega)
      show (if cancels (c.getD i default) (c.getD (i + 1) default) = true then _ else _) = _
      rw [if_neg (by rw [this]; simp)]
      simp
theorem opt_again {im : Img} (h : im.check.2 = 0) (hn : NoPair im.code) : optCode im.code = im.code := by
  obtain ⟨hg, hp⟩ := valid_good h
  obtain ⟨o1, o2⟩ := opt_good hg
  refine lab_inj o1 hg ?_
  rw [o2]; exact nf_noPair (noPair_re _ hn)
end Bk
