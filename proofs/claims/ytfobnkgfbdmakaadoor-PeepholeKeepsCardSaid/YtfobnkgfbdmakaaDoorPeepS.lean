/- Plain: the peephole optimizer and its reference. -/
import Derived.Test.YtfobnkgfbdmakaaDoorImageS
set_option linter.unusedVariables false
namespace Bk

/-- Opcodes that are never removed. -/
def ctlB (op : Int) : Bool := decide (op = 0 ∨ (21 ≤ op ∧ op ≤ 27) ∨ 30 ≤ op)

def rinv (op : Int) : Int :=
  if op = 1 then 2 else if op = 2 then 1 else if op = 4 then 5 else if op = 5 then 4
  else if op = 12 then 13 else if op = 13 then 12 else if op = 17 then 18 else if op = 18 then 17
  else if op = 19 then 20 else if op = 20 then 19 else if op = 28 then 29 else if op = 29 then 28 else op

/-- Two instructions, the first of which is valid, cancel. -/
def cancels (a b : Ins) : Bool := a.valid && (!ctlB a.op && decide ({ a with op := rinv a.op } = b))
def refCancels (a b : Ins) : Bool := !ctlB a.op && decide ({ a with op := rinv a.op } = b)

theorem rinv_eq (op : Int) (h : ctlB op = false) : rinv op = inv op := by
  have h := of_decide_eq_false h
  by_cases hs : op = 1 ∨ op = 2 ∨ op = 4 ∨ op = 5 ∨ op = 12 ∨ op = 13 ∨ op = 17 ∨ op = 18 ∨ op = 19 ∨ op = 20 ∨ op = 28 ∨ op = 29
  · rcases hs with rfl | rfl | rfl | rfl | rfl | rfl | rfl | rfl | rfl | rfl | rfl | rfl <;> rfl
  · unfold rinv inv
    rw [if_neg (by omega), if_neg (by omega), if_neg (by omega), if_neg (by omega), if_neg (by omega), if_neg (by omega), if_neg (by omega), if_neg (by omega), if_neg (by omega), if_neg (by omega), if_neg (by omega), if_neg (by omega), if_neg (by omega), if_neg (by omega), if_neg (by omega), if_neg (by omega), if_neg (by omega), if_neg (by omega), if_neg (by omega), if_neg (by omega), if_neg (by omega), if_neg (by omega), if_neg (by omega), if_neg (by omega), if_neg (by omega), if_neg (by omega), if_neg (by omega), if_neg (by omega), if_neg (by omega), if_neg (by omega), if_neg (by omega), if_neg (by omega)]

/-- What is kept of the first i instructions: indices, the last one first. -/
def keepAt (code : Prg) : Nat → List Nat
  | 0 => []
  | i + 1 => match keepAt code i with
    | [] => [i]
    | k :: rest => if cancels (code.getD k default) (code.getD i default) then rest else i :: k :: rest

theorem keepAt_lt (code : Prg) (i : Nat) : ∀ k ∈ keepAt code i, k < i := by
  induction i with
  | zero => intro k hk; cases hk
  | succ i ih =>
    intro k hk
    rw [keepAt] at hk
    cases h : keepAt code i with
    | nil => rw [h] at hk; simp at hk; omega
    | cons j rest =>
      rw [h] at hk ih
      simp only at hk
      split at hk
      · have := ih k (List.mem_cons_of_mem _ hk); omega
      · rcases List.mem_cons.1 hk with rfl | hk
        · omega
        · have := ih k hk; omega
theorem keepAt_length (code : Prg) (i : Nat) : (keepAt code i).length ≤ i := by
  induction i with
  | zero => simp [keepAt]
  | succ i ih =>
    rw [keepAt]
    cases h : keepAt code i with
    | nil => simp
    | cons j rest =>
      rw [h] at ih
      simp only
      split <;> simp at * <;> omega

/-- The table of the new indices behind j rounds: kl are the kept indices in ascending order. -/
def idxA (kl : List Nat) : Nat → Nat → Int
  | 0, _ => 0
  | j + 1, t => if t = kl.getD j 0 then (j : Int) else idxA kl j t

/-- The kept instruction with index k, with its new target. -/
def relink (code : Prg) (kl : List Nat) (k : Nat) : Ins :=
  if (code.getD k default).target.2 = true then (code.getD k default).retarget (idxA kl kl.length (code.getD k default).target.1.toNat) else code.getD k default

/-- The kept indices in ascending order. -/
def kept (code : Prg) : List Nat := (keepAt code code.length).reverse
def optCode (code : Prg) : Prg := (kept code).map (relink code (kept code))
def optimize (im : Img) : Img × Int := if im.check.2 = 0 then ({ im with code := optCode im.code }, 0) else (⟨[], 0, 0⟩, im.check.2)
def removed (im : Img) : Int := if im.check.2 = 0 then (im.code.length : Int) - (optCode im.code).length else 0

theorem kept_lt (code : Prg) : ∀ k ∈ kept code, k < code.length := fun k hk => keepAt_lt code _ k (List.mem_reverse.1 hk)
theorem kept_length (code : Prg) : (kept code).length ≤ code.length := by have := keepAt_length code code.length; simpa [kept] using this
theorem optCode_length (code : Prg) : (optCode code).length = (kept code).length := by simp [optCode]

/-- In a valid image every target is an instruction's index. -/
theorem check_fault {im : Img} (h : im.check.2 = 0) : im.sized = true ∧ ∀ k, k < im.code.length → fault im.code k = 0 := by
  unfold Img.check at h
  split at h
  · rename_i hs
    refine ⟨hs, fun k hk => ?_⟩
    rcases Decidable.em (∃ i, i < im.code.length ∧ (∀ j, j < i → fault im.code j = 0) ∧ fault im.code i ≠ 0) with ⟨i, hi, hj, hf⟩ | hno
    · rw [checkFrom_at im.code _ i hi hj hf] at h
      exact absurd h hf
    · have all : ∀ m, ∀ j, j < m → j < im.code.length → fault im.code j = 0 := by
        intro m
        induction m with
        | zero => intro j hj; omega
        | succ m ih =>
          intro j hj hjl
          rcases Nat.lt_or_ge j m with hlt | hge
          · exact ih j hlt hjl
          · obtain rfl : j = m := by omega
            rcases Decidable.em (fault im.code j = 0) with h0 | h0
            · exact h0
            · exact absurd ⟨j, hjl, fun i hi => ih i hi (by omega), h0⟩ hno
      exact all (k + 1) k (by omega) hk
  · cases h

theorem fault_zero {code : Prg} {k : Nat} (h : fault code k = 0) : (code.getD k default).valid = true ∧
    ((code.getD k default).target.2 = true → 0 ≤ (code.getD k default).target.1 ∧ (code.getD k default).target.1 < code.length) := by
  unfold fault at h
  simp only at h
  split at h
  · cases h
  rename_i hv
  refine ⟨by simpa using hv, fun ht => ?_⟩
  split at h
  · rename_i h2; rw [ht] at h2; cases h2
  split at h
  · split at h
    · cases h
    · rename_i h3
      have h4 : (partner code (code.getD k default).target.1).2 = true := by
        cases hp : (partner code (code.getD k default).target.1).2
        · exact absurd (Or.inl hp) h3
        · rfl
      obtain ⟨a, b, _⟩ := partner_inv h4
      exact ⟨a, b⟩
  · split at h
    · cases h
    · rename_i h3
      have h4 : (partner code k).2 = true := by simpa using h3
      obtain ⟨_, _, a, b, c, _⟩ := partner_inv h4
      rw [Int.toNat_natCast] at c
      have e : (code.getD k default).target.1 = (partner code k).1 := by rw [c]
      rw [e]; exact ⟨a, b⟩

theorem idxA_range (kl : List Nat) (j t : Nat) : 0 ≤ idxA kl j t ∧ idxA kl j t ≤ j := by
  induction j with
  | zero => simp [idxA]
  | succ j ih => simp only [idxA]; split <;> omega

theorem relink_wf {code : Prg} (hw : CodeWf code) (hl : code.length ≤ 65536) {k : Nat} (hk : k < code.length) : (relink code (kept code) k).Wf := by
  unfold relink
  have h := hw k hk
  split
  · have hr := idxA_range (kept code) (kept code).length (code.getD k default).target.1.toNat
    have hkl := kept_length code
    generalize idxA (kept code) (kept code).length (code.getD k default).target.1.toNat = t at *
    have ha : -9223372036854775808 ≤ retA (code.getD k default).op (code.getD k default).a t ∧ retA (code.getD k default).op (code.getD k default).a t ≤ 9223372036854775807 := by
      unfold retA; have := h.a0; have := h.a1; split <;> omega
    have hb : -9223372036854775808 ≤ retB (code.getD k default).op (code.getD k default).b t ∧ retB (code.getD k default).op (code.getD k default).b t ≤ 9223372036854775807 := by
      unfold retB; have := h.b0; have := h.b1; split <;> omega
    exact ⟨h.op0, h.op1, ha.1, ha.2, hb.1, hb.2, h.c0, h.c1, h.d0, h.d1⟩
  · exact h

theorem optCode_wf {code : Prg} (hw : CodeWf code) (hl : code.length ≤ 65536) : CodeWf (optCode code) := by
  intro k hk
  have hk' : k < (kept code).length := by rwa [optCode_length] at hk
  have e : (optCode code).getD k default = relink code (kept code) ((kept code)[k]) := by
    simp [optCode, List.getD_eq_getElem?_getD, hk']
  rw [e]
  exact relink_wf hw hl (kept_lt code _ (List.getElem_mem hk'))

/-- The reference: a target behind the removed pair; an instruction with its new target; the code without the pair at k. -/
def shT (t k : Int) : Int := if k < t then t - 2 else t
def shI (k : Int) (x : Ins) : Ins := ⟨x.op, retA x.op x.a (shT x.a k), retB x.op x.b (shT x.b k), x.c, x.d⟩
def remPre (c : Prg) (k : Nat) : Nat → Prg
  | 0 => []
  | i + 1 => if i = k ∨ i = k + 1 then remPre c k i else remPre c k i ++ [shI k (c.getD i default)]
def removeAt (c : Prg) (k : Nat) : Prg := remPre c k c.length
theorem remPre_length (c : Prg) (k i : Nat) : (remPre c k i).length = i - (if k + 1 < i then 2 else if k < i then 1 else 0) := by
  induction i with
  | zero => simp [remPre]
  | succ i ih =>
    rw [remPre]
    by_cases h1 : i = k
    · subst h1
      rw [if_pos (.inl rfl), ih, if_neg (by omega), if_neg (by omega), if_neg (by omega), if_pos (by omega)]; omega
    · by_cases h2 : i = k + 1
      · subst h2
        rw [if_pos (.inr rfl), ih, if_neg (by omega), if_pos (by omega), if_pos (by omega)]; omega
      · rw [if_neg (by omega), List.length_append, ih]
        simp only [List.length_cons, List.length_nil]
        by_cases h3 : k + 1 < i
        · rw [if_pos h3, if_pos (by omega)]; omega
        · rw [if_neg h3, if_neg (by omega), if_neg (by omega), if_neg (by omega)]; omega
theorem removeAt_length (c : Prg) (k : Nat) (h : k + 1 < c.length) : (removeAt c k).length = c.length - 2 := by
  unfold removeAt; rw [remPre_length, if_pos h]

/-- The reference's loop: j - 1 is the index to be looked at next. -/
def refLoop (c : Prg) (j : Nat) : Prg :=
  match j with
  | 0 => c
  | k + 1 => if h : k + 1 < c.length ∧ refCancels (c.getD k default) (c.getD (k + 1) default) = true then refLoop (removeAt c k) (removeAt c k).length else refLoop c k
termination_by (c.length, j)
decreasing_by
  · apply Prod.Lex.left; rw [removeAt_length c k h.1]; omega
  · apply Prod.Lex.right; omega
def refOpt (c : Prg) : Prg := refLoop c (c.length - 1)

theorem shI_wf {k : Int} (hk : 0 ≤ k) {x : Ins} (h : x.Wf) : (shI k x).Wf := by
  have ha : -9223372036854775808 ≤ retA x.op x.a (shT x.a k) ∧ retA x.op x.a (shT x.a k) ≤ 9223372036854775807 := by
    unfold retA shT; have := h.a0; have := h.a1; split <;> (try split) <;> omega
  have hb : -9223372036854775808 ≤ retB x.op x.b (shT x.b k) ∧ retB x.op x.b (shT x.b k) ≤ 9223372036854775807 := by
    unfold retB shT; have := h.b0; have := h.b1; split <;> (try split) <;> omega
  exact ⟨h.op0, h.op1, ha.1, ha.2, hb.1, hb.2, h.c0, h.c1, h.d0, h.d1⟩
theorem remPre_mem (c : Prg) (k i : Nat) (hi : i ≤ c.length) : ∀ y ∈ remPre c k i, ∃ j, j < c.length ∧ y = shI k (c.getD j default) := by
  induction i with
  | zero => intro y hy; cases hy
  | succ i ih =>
    intro y hy
    rw [remPre] at hy
    split at hy
    · exact ih (by omega) y hy
    · rcases List.mem_append.1 hy with h | h
      · exact ih (by omega) y h
      · simp at h; exact ⟨i, by omega, h⟩
theorem removeAt_wf {c : Prg} (hw : CodeWf c) (k : Nat) : CodeWf (removeAt c k) := by
  intro j hj
  have hm : (removeAt c k).getD j default ∈ removeAt c k := by
    rw [List.getD_eq_getElem?_getD, List.getElem?_eq_getElem hj]; exact List.getElem_mem hj
  obtain ⟨q, hq, e⟩ := remPre_mem c k c.length (Nat.le_refl _) _ hm
  rw [e]
  exact shI_wf (by omega) (hw q hq)
theorem refLoop_zero (c : Prg) : refLoop c 0 = c := by rw [refLoop]
theorem refLoop_rem (c : Prg) (k : Nat) (h : k + 1 < c.length ∧ refCancels (c.getD k default) (c.getD (k + 1) default) = true) : refLoop c (k + 1) = refLoop (removeAt c k) (removeAt c k).length := by
  rw [refLoop, dif_pos h]
theorem refLoop_skip (c : Prg) (k : Nat) (h : ¬ (k + 1 < c.length ∧ refCancels (c.getD k default) (c.getD (k + 1) default) = true)) : refLoop c (k + 1) = refLoop c k := by
  rw [refLoop, dif_neg h]
end Bk
