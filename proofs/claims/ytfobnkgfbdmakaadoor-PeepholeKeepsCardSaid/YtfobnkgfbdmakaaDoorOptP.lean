/- Plain: the optimized code is the reference's. -/
import Derived.Test.YtfobnkgfbdmakaaDoorLab
set_option linter.unusedVariables false
namespace Bk

theorem keepAt_split (c : Prg) (t : Nat) (hc : ctl (c.getD t default) = true) : ∀ n, t < n → ∃ R, keepAt c n = R ++ t :: keepAt c t ∧ ∀ k ∈ R, t < k := by
  intro n
  induction n with
  | zero => intro h; omega
  | succ n ih =>
    intro h
    rcases Nat.lt_or_ge t n with hlt | hge
    · obtain ⟨R, e, hR⟩ := ih hlt
      rw [keepAt, e]
      cases R with
      | nil =>
        simp only [List.nil_append]
        have : cancels (c.getD t default) (c.getD n default) = false := by
          cases hx : cancels (c.getD t default) (c.getD n default)
          · rfl
          · have := (cancels_ctl hx).1; unfold ctl at hc; rw [hc] at this; cases this
        rw [if_neg (by rw [this]; simp)]
        exact ⟨[n], rfl, by simpa using hlt⟩
      | cons k R =>
        simp only [List.cons_append]
        split
        · exact ⟨R, rfl, fun x hx => hR x (by simp [hx])⟩
        · exact ⟨n :: k :: R, rfl, fun x hx => (List.mem_cons.1 hx).elim (fun e => by rw [e]; exact hlt) (hR x)⟩
    · obtain rfl : t = n := by omega
      rw [keepAt]
      refine ⟨[], ?_, by simp⟩
      cases hk : keepAt c t with
      | nil => rfl
      | cons k rest =>
        have : cancels (c.getD k default) (c.getD t default) = false := by
          cases hx : cancels (c.getD k default) (c.getD t default)
          · rfl
          · have := (cancels_ctl hx).2; unfold ctl at hc; rw [hc] at this; cases this
        simp only
        rw [if_neg (by rw [this]; simp)]
        rfl

theorem cnt_snoc (l : Prg) (x : Ins) : cnt (l ++ [x]) (l.length + 1) = cnt l l.length + if ctl x = true then 1 else 0 := by
  rw [cnt_append, if_neg (by omega)]
  have : l.length + 1 - l.length = 1 := by omega
  rw [this]; simp [cnt]
theorem cnt_succ (c : Prg) (i : Nat) (h : i < c.length) : cnt c (i + 1) = cnt c i + if ctl (c.getD i default) = true then 1 else 0 := by
  have e : c = c.take (i + 1) ++ c.drop (i + 1) := (List.take_append_drop _ _).symm
  have e1 : c.take (i + 1) = c.take i ++ [c.getD i default] := by
    rw [List.take_add_one]; simp [List.getD_eq_getElem?_getD, h]
  have l1 : (c.take (i + 1)).length = i + 1 := by simp; omega
  have l0 : (c.take i).length = i := by simp; omega
  have a1 : cnt c (i + 1) = cnt (c.take (i + 1)) (i + 1) := by
    conv => lhs; rw [e]
    rw [cnt_append, if_pos (by omega)]
  have a0 : cnt c i = cnt (c.take i) i := by
    conv => lhs; rw [← List.take_append_drop i c]
    rw [cnt_append, if_pos (by omega)]
  have := cnt_snoc (c.take i) (c.getD i default)
  rw [l0] at this
  rw [a1, a0, e1]; exact this

/-- All control instructions are kept. -/
theorem keepAt_cnt (c : Prg) (i : Nat) (h : i ≤ c.length) : cnt ((keepAt c i).reverse.map fun k => c.getD k default) (keepAt c i).length = cnt c i := by
  induction i with
  | zero => simp [keepAt, cnt_zero]
  | succ i ih =>
    have ih := ih (by omega)
    rw [cnt_succ c i (by omega), ← ih, keepAt]
    cases hk : keepAt c i with
    | nil =>
      simp only [List.reverse_cons, List.reverse_nil, List.nil_append, List.map_cons, List.map_nil, List.length_cons, List.length_nil]
      simp [cnt]
    | cons k rest =>
      simp only
      have e2 : ((k :: rest).reverse.map fun k => c.getD k default) = (rest.reverse.map fun k => c.getD k default) ++ [c.getD k default] := by simp
      have l2 : (rest.reverse.map fun k => c.getD k default).length = rest.length := by simp
      have c2 := cnt_snoc (rest.reverse.map fun k => c.getD k default) (c.getD k default)
      rw [l2, ← e2] at c2
      split
      · rename_i hc
        obtain ⟨h1, h2⟩ := cancels_ctl hc
        rw [List.length_cons, c2]
        unfold ctl; rw [h1, h2]; simp
      · have e3 : ((i :: k :: rest).reverse.map fun k => c.getD k default) = ((k :: rest).reverse.map fun k => c.getD k default) ++ [c.getD i default] := by simp
        have l3 : ((k :: rest).reverse.map fun k => c.getD k default).length = (k :: rest).length := by simp
        have c3 := cnt_snoc ((k :: rest).reverse.map fun k => c.getD k default) (c.getD i default)
        rw [l3, ← e3] at c3
        exact c3

theorem idxA_split (A B : List Nat) (t : Nat) (hB : t ∉ B) : ∀ j, A.length < j → j ≤ (A ++ t :: B).length → idxA (A ++ t :: B) j t = A.length := by
  intro j
  induction j with
  | zero => intro h; omega
  | succ j ih =>
    intro h1 h2
    rw [idxA]
    rcases Nat.lt_or_ge A.length j with hlt | hge
    · rw [if_neg, ih hlt (by omega)]
      intro e
      obtain ⟨s, rfl⟩ : ∃ s, j = A.length + (s + 1) := ⟨j - A.length - 1, by omega⟩
      rw [List.getD_eq_getElem?_getD, List.getElem?_append_right (by omega)] at e
      have e1 : A.length + (s + 1) - A.length = s + 1 := by omega
      rw [e1] at e
      simp only [List.getElem?_cons_succ] at e
      have hs : s < B.length := by simp at h2; omega
      rw [List.getElem?_eq_getElem hs] at e
      exact hB (by rw [e]; exact List.getElem_mem hs)
    · obtain rfl : j = A.length := by omega
      rw [if_pos]
      rw [List.getD_eq_getElem?_getD, List.getElem?_append_right (by omega)]; simp

/-- The new index of a kept control instruction. -/
theorem idx_ctl (c : Prg) (t : Nat) (ht : t < c.length) (hc : ctl (c.getD t default) = true) :
    idxA (kept c) (kept c).length t = ((keepAt c t).length : Int) ∧ (keepAt c t).length < (nf c).length ∧ (nf c).getD (keepAt c t).length default = c.getD t default ∧ cnt (nf c) (keepAt c t).length = cnt c t := by
  obtain ⟨R, e, hR⟩ := keepAt_split c t hc c.length ht
  have ek : kept c = (keepAt c t).reverse ++ t :: R.reverse := by unfold kept; rw [e]; simp
  have hl : (keepAt c t).reverse.length = (keepAt c t).length := by simp
  have hn : nf c = ((keepAt c t).reverse.map fun k => c.getD k default) ++ c.getD t default :: (R.reverse.map fun k => c.getD k default) := by
    rw [← kept_nf, ek]; simp
  refine ⟨?_, by rw [hn]; simp, ?_, ?_⟩
  · rw [ek]
    have := idxA_split (keepAt c t).reverse R.reverse t (fun h => by have := hR t (List.mem_reverse.1 h); omega) _ (by simp : (keepAt c t).reverse.length < ((keepAt c t).reverse ++ t :: R.reverse).length) (Nat.le_refl _)
    rw [this, hl]
  · rw [hn, List.getD_eq_getElem?_getD, List.getElem?_append_right (by simp)]; simp
  · rw [hn, cnt_append, if_pos (by simp)]
    exact keepAt_cnt c t (by omega)

theorem optCode_eq (c : Prg) : optCode c = (nf c).map (re fun t => idxA (kept c) (kept c).length t.toNat) := by
  unfold optCode
  rw [← kept_nf, List.map_map]
  refine List.map_congr_left fun k hk => ?_
  rw [Function.comp_apply]
  rfl

theorem nf_mem (l : Prg) : ∀ x ∈ nf l, x ∈ l := by
  intro x hx
  rw [← kept_nf] at hx
  obtain ⟨k, hk, rfl⟩ := List.mem_map.1 hx
  have hlt := kept_lt l k hk
  simp [List.getD_eq_getElem?_getD, hlt]

theorem opt_good {c : Prg} (hg : Good c) : Good (optCode c) ∧ Lab (optCode c) = nf (Lab c) := by
  have hr := optCode_eq c
  refine ⟨fun y hy ht => ?_, ?_⟩
  · rw [hr] at hy
    obtain ⟨x, hx, rfl⟩ := List.mem_map.1 hy
    rw [re_tgt] at ht
    obtain ⟨t, e, h1, h2⟩ := hg x (nf_mem c x hx) ht
    obtain ⟨i1, i2, i3, i4⟩ := idx_ctl c t h1 h2
    refine ⟨(keepAt c t).length, by rw [re_target _ ht, e, Int.toNat_natCast, i1], by rw [hr]; simpa using i2, ?_⟩
    rw [hr, getD_re _ _ _ i2, re_ctl, i3]; exact h2
  · have : Lab (optCode c) = (nf c).map (re (lab c)) := by
      refine Lab_eq hr fun x hx ht => ?_
      obtain ⟨t, e, h1, h2⟩ := hg x (nf_mem c x hx) ht
      obtain ⟨i1, i2, i3, i4⟩ := idx_ctl c t h1 h2
      rw [e]
      simp only [Int.toNat_natCast, i1, lab]
      rw [hr, cnt_re, i4]
    rw [this, Lab, nf_re]

/-- Instructions that are no control instructions are valid. -/
def Plain (c : Prg) : Prop := ∀ x ∈ c, ctl x = false → x.valid = true
theorem plain_re {l : Prg} {f : Int → Int} (h : Plain l) : Plain (l.map (re f)) := by
  intro y hy hc
  obtain ⟨x, hx, rfl⟩ := List.mem_map.1 hy
  rw [re_ctl] at hc
  have : re f x = x := by
    unfold re; rw [if_neg]
    intro ht; have := tgt_ctl ht; unfold ctl at hc; rw [hc] at this; cases this
  rw [this]; exact h x hx hc
theorem plain_cancels {c : Prg} (h : Plain c) {k : Nat} (hk : k < c.length) (y : Ins) : refCancels (c.getD k default) y = cancels (c.getD k default) y := by
  cases hc : ctl (c.getD k default) with
  | true => unfold refCancels cancels; unfold ctl at hc; rw [hc]; simp
  | false =>
    refine cancels_valid (h _ ?_ hc)
    simp [List.getD_eq_getElem?_getD, hk]
theorem refLoop_spec (c : Prg) (j : Nat) (hg : Good c) (hp : Plain c) (hn : ∀ q, j ≤ q → q + 1 < c.length → cancels (c.getD q default) (c.getD (q + 1) default) = false) :
    Good (refLoop c j) ∧ nf (Lab (refLoop c j)) = nf (Lab c) ∧ NoPair (refLoop c j) := by
  match j with
  | 0 => rw [refLoop_zero]; exact ⟨hg, rfl, fun k hk => hn k (Nat.zero_le _) hk⟩
  | k + 1 =>
    by_cases h : k + 1 < c.length ∧ refCancels (c.getD k default) (c.getD (k + 1) default) = true
    · rw [refLoop_rem c k h]
      have hc : cancels (c.getD k default) (c.getD (k + 1) default) = true := by rw [← plain_cancels hp (by omega)]; exact h.2
      obtain ⟨g1, g2⟩ := remove_good hg h.1 hc
      have hp1 : Plain (removeAt c k) := by
        rw [removeAt_eq c k (by omega)]
        exact plain_re fun x hx => hp x (by
          rcases List.mem_append.1 hx with h | h
          · exact List.mem_of_mem_take h
          · exact List.mem_of_mem_drop h)
      have ih := refLoop_spec (removeAt c k) (removeAt c k).length g1 hp1 (fun q h1 h2 => by omega)
      exact ⟨ih.1, ih.2.1.trans g2, ih.2.2⟩
    · rw [refLoop_skip c k h]
      refine refLoop_spec c k hg hp fun q h1 h2 => ?_
      rcases Nat.eq_or_lt_of_le h1 with e | e
      · subst e
        rw [← plain_cancels hp (by omega)]
        cases hx : refCancels (c.getD k default) (c.getD (k + 1) default)
        · rfl
        · exact absurd ⟨h2, hx⟩ h
      · exact hn q e h2
termination_by (c.length, j)
decreasing_by
  · apply Prod.Lex.left; rw [removeAt_length c k h.1]; omega
  · apply Prod.Lex.right; omega

theorem noPair_re {l : Prg} (f : Int → Int) (h : NoPair l) : NoPair (l.map (re f)) := by
  intro k hk
  have hk' : k + 1 < l.length := by simpa using hk
  rw [getD_re _ _ _ (by omega), getD_re _ _ _ hk', re_cancels]
  exact h k hk'

/-- THE OPTIMIZED CODE IS THE REFERENCE's. -/
theorem opt_ref {c : Prg} (hg : Good c) (hp : Plain c) : refOpt c = optCode c := by
  obtain ⟨h1, h2, h3⟩ := refLoop_spec c (c.length - 1) hg hp (fun q h1 h2 => by omega)
  obtain ⟨o1, o2⟩ := opt_good hg
  refine lab_inj h1 o1 ?_
  rw [o2, ← h2]
  exact (nf_noPair (noPair_re _ h3)).symm

/-- A valid image's code is good. -/
theorem valid_good {im : Img} (h : im.check.2 = 0) : Good im.code ∧ Plain im.code := by
  obtain ⟨hs, hf⟩ := check_fault h
  have at_ : ∀ x ∈ im.code, ∃ k, k < im.code.length ∧ im.code.getD k default = x := by
    intro x hx
    obtain ⟨k, hk, e⟩ := List.getElem_of_mem hx
    exact ⟨k, hk, by simp [List.getD_eq_getElem?_getD, hk, e]⟩
  refine ⟨fun x hx ht => ?_, fun x hx _ => ?_⟩
  · obtain ⟨k, hk, rfl⟩ := at_ x hx
    have h0 := hf k hk
    unfold fault at h0
    simp only at h0
    split at h0
    · cases h0
    split at h0
    · rename_i h2; unfold tgt at ht; rw [ht] at h2; cases h2
    split at h0
    · split at h0
      · cases h0
      · rename_i h3
        have h4 : (partner im.code (im.code.getD k default).target.1).2 = true := by
          cases hp : (partner im.code (im.code.getD k default).target.1).2
          · exact absurd (Or.inl hp) h3
          · rfl
        have h5 : (im.code.getD (im.code.getD k default).target.1.toNat default).op = 32 := by
          rcases Decidable.em ((im.code.getD (im.code.getD k default).target.1.toNat default).op = 32) with e | e
          · exact e
          · exact absurd (Or.inr e) h3
        obtain ⟨a, b, _⟩ := partner_inv h4
        refine ⟨_, (Int.toNat_of_nonneg a).symm, by omega, ?_⟩
        unfold ctl ctlB; rw [h5]; decide
    · split at h0
      · cases h0
      · rename_i h3
        have h4 : (partner im.code k).2 = true := by simpa using h3
        obtain ⟨_, _, a, b, c, _, _, d, _⟩ := partner_inv h4
        rw [Int.toNat_natCast] at c
        have e : (im.code.getD k default).target.1 = (partner im.code k).1 := by rw [c]
        rw [e]
        refine ⟨_, (Int.toNat_of_nonneg a).symm, by omega, ?_⟩
        exact tgt_ctl (by unfold tgt; rw [d])
  · obtain ⟨k, hk, rfl⟩ := at_ x hx
    exact (fault_zero (hf k hk)).1
end Bk
