/- Plain: targets written as numbers of control instructions; the optimized code is the reduced word. -/
import Derived.Test.YtfobnkgfbdmakaaDoorRed
set_option linter.unusedVariables false
namespace Bk

def tgt (x : Ins) : Bool := x.target.2
theorem tgt_ops (x : Ins) : tgt x = decide ((x.op = 22 ∨ x.op = 25 ∨ x.op = 30 ∨ x.op = 31 ∨ x.op = 32 ∨ x.op = 33) ∨ x.op = 23 ∨ x.op = 24 ∨ x.op = 26 ∨ x.op = 27) := by
  unfold tgt Ins.target targetP
  split
  · simp; omega
  · split
    · simp; omega
    · simp; omega
theorem tgt_ctl {x : Ins} (h : tgt x = true) : ctlB x.op = true := by
  rw [tgt_ops, decide_eq_true_eq] at h
  unfold ctlB; rw [decide_eq_true_eq]; omega
theorem ret_op (x : Ins) (t : Int) : (x.retarget t).op = x.op := rfl
theorem ret_tgt (x : Ins) (t : Int) : tgt (x.retarget t) = tgt x := by rw [tgt_ops, tgt_ops, ret_op]
theorem ret_target {x : Ins} (h : tgt x = true) (t : Int) : (x.retarget t).target.1 = t := by
  rw [tgt_ops, decide_eq_true_eq] at h
  unfold Ins.target targetP Ins.retarget retA retB
  simp only
  by_cases h1 : x.op = 22 ∨ x.op = 25 ∨ x.op = 30 ∨ x.op = 31 ∨ x.op = 32 ∨ x.op = 33
  · rw [if_pos h1, if_pos h1]
  · rw [if_neg h1, if_pos (by omega), if_pos (by omega)]
theorem ret_ret (x : Ins) (s t : Int) : (x.retarget s).retarget t = x.retarget t := by
  unfold Ins.retarget retA retB
  simp only
  congr 1
  · split <;> rfl
  · split <;> rfl
theorem ret_self {x : Ins} (h : tgt x = true) : x.retarget x.target.1 = x := by
  rw [tgt_ops, decide_eq_true_eq] at h
  unfold Ins.target targetP Ins.retarget retA retB
  by_cases h1 : x.op = 22 ∨ x.op = 25 ∨ x.op = 30 ∨ x.op = 31 ∨ x.op = 32 ∨ x.op = 33
  · simp only [if_pos h1, if_neg (show ¬ (x.op = 23 ∨ x.op = 24 ∨ x.op = 26 ∨ x.op = 27) by omega)]
  · simp only [if_neg h1, if_pos (show x.op = 23 ∨ x.op = 24 ∨ x.op = 26 ∨ x.op = 27 by omega)]

/-- A target turned by f. -/
def re (f : Int → Int) (x : Ins) : Ins := if tgt x = true then x.retarget (f x.target.1) else x
theorem re_op (f : Int → Int) (x : Ins) : (re f x).op = x.op := by unfold re; split <;> rfl
theorem re_tgt (f : Int → Int) (x : Ins) : tgt (re f x) = tgt x := by rw [tgt_ops, tgt_ops, re_op]
theorem re_target (f : Int → Int) {x : Ins} (h : tgt x = true) : (re f x).target.1 = f x.target.1 := by unfold re; rw [if_pos h, ret_target h]
theorem re_re (f g : Int → Int) (x : Ins) : re g (re f x) = re (fun t => g (f t)) x := by
  by_cases h : tgt x = true
  · have h2 : tgt (re f x) = true := by rw [re_tgt]; exact h
    have e := re_target f h
    rw [re, if_pos h2, e, re, if_pos h, ret_ret, re, if_pos h]
  · have e : re f x = x := by rw [re, if_neg h]
    rw [e, re, if_neg h, re, if_neg h]
theorem re_congr {f g : Int → Int} {x : Ins} (h : tgt x = true → f x.target.1 = g x.target.1) : re f x = re g x := by
  unfold re; split
  · rename_i ht; rw [h ht]
  · rfl
theorem re_id (x : Ins) : re (fun t => t) x = x := by
  unfold re; split
  · rename_i h; exact ret_self h
  · rfl
theorem re_cancels (f g : Int → Int) (x y : Ins) : cancels (re f x) (re g y) = cancels x y := by
  by_cases hx : tgt x = true
  · have h1 : cancels x y = false := by
      cases h : cancels x y
      · rfl
      · have := (cancels_ctl h).1; rw [tgt_ctl hx] at this; cases this
    rw [h1]
    cases h : cancels (re f x) (re g y)
    · rfl
    · have := (cancels_ctl h).1; rw [re_op, tgt_ctl hx] at this; cases this
  · have ex : re f x = x := by rw [re, if_neg hx]
    rw [ex]
    by_cases hy : tgt y = true
    · have h1 : cancels x y = false := by
        cases h : cancels x y
        · rfl
        · have := (cancels_ctl h).2; rw [tgt_ctl hy] at this; cases this
      rw [h1]
      cases h : cancels x (re g y)
      · rfl
      · have := (cancels_ctl h).2; rw [re_op, tgt_ctl hy] at this; cases this
    · rw [re, if_neg hy]

theorem push_re (f : Int → Int) (s : List Ins) (x : Ins) : push (s.map (re f)) (re f x) = (push s x).map (re f) := by
  cases s with
  | nil => rfl
  | cons p s =>
    simp only [List.map_cons, push_cons, re_cancels]
    split <;> rfl
theorem red_re (f : Int → Int) (s l : List Ins) : red (s.map (re f)) (l.map (re f)) = (red s l).map (re f) := by
  induction l generalizing s with
  | nil => rfl
  | cons x l ih => rw [List.map_cons, red_cons, red_cons, push_re, ih]
theorem nf_re (f : Int → Int) (l : List Ins) : nf (l.map (re f)) = (nf l).map (re f) := by
  unfold nf; rw [List.map_reverse]; congr 1; exact red_re f [] l

/-- How many control instructions stand before index t; where the q-th one stands. -/
def ctl (x : Ins) : Bool := ctlB x.op
def cnt : Prg → Nat → Nat
  | [], _ => 0
  | _ :: _, 0 => 0
  | x :: l, t + 1 => (if ctl x = true then 1 else 0) + cnt l t
def pos : Prg → Nat → Nat
  | [], _ => 0
  | x :: l, q => if ctl x = true then (if q = 0 then 0 else pos l (q - 1) + 1) else pos l q + 1
theorem re_ctl (f : Int → Int) (x : Ins) : ctl (re f x) = ctl x := by unfold ctl; rw [re_op]
theorem cnt_re (f : Int → Int) (l : Prg) (t : Nat) : cnt (l.map (re f)) t = cnt l t := by
  induction l generalizing t with
  | nil => rfl
  | cons x l ih => cases t with
    | zero => rfl
    | succ t => simp only [List.map_cons, cnt, re_ctl, ih]
theorem pos_re (f : Int → Int) (l : Prg) (q : Nat) : pos (l.map (re f)) q = pos l q := by
  induction l generalizing q with
  | nil => rfl
  | cons x l ih => simp only [List.map_cons, pos, re_ctl, ih]
theorem cnt_zero (l : Prg) : cnt l 0 = 0 := by cases l <;> rfl
theorem pos_cnt : ∀ (l : Prg) (t : Nat), t < l.length → ctl (l.getD t default) = true → pos l (cnt l t) = t
  | [], t, h, _ => by simp at h
  | x :: l, 0, h, hc => by
    have hx : ctl x = true := by simpa using hc
    simp only [cnt, pos, hx, if_true]
  | x :: l, t + 1, h, hc => by
    have ih := pos_cnt l t (by simpa using h) (by simpa using hc)
    simp only [cnt, pos]
    by_cases hx : ctl x = true
    · simp only [hx, if_true]
      rw [if_neg (by omega), Nat.add_sub_cancel_left, ih]
    · simp only [hx]
      simp [ih]
theorem cnt_append (l r : Prg) (t : Nat) : cnt (l ++ r) t = if t ≤ l.length then cnt l t else cnt l l.length + cnt r (t - l.length) := by
  induction l generalizing t with
  | nil =>
    cases t with
    | zero => simp [cnt_zero]
    | succ t => simp [cnt]
  | cons x l ih =>
    cases t with
    | zero => simp [cnt]
    | succ t =>
      simp only [List.cons_append, cnt, ih, List.length_cons]
      by_cases h : t ≤ l.length
      · simp only [if_pos h, if_pos (show t + 1 ≤ l.length + 1 by omega)]
      · simp only [if_neg h, if_neg (show ¬ t + 1 ≤ l.length + 1 by omega)]
        have : t + 1 - (l.length + 1) = t - l.length := by omega
        rw [this]; omega

/-- Targets are indices of control instructions. -/
def Good (c : Prg) : Prop := ∀ x ∈ c, tgt x = true → ∃ t : Nat, x.target.1 = (t : Int) ∧ t < c.length ∧ ctl (c.getD t default) = true
def lab (c : Prg) (t : Int) : Int := (cnt c t.toNat : Nat)
def unl (l : Prg) (q : Int) : Int := (pos l q.toNat : Nat)
def Lab (c : Prg) : Prg := c.map (re (lab c))
def Unl (l : Prg) : Prg := l.map (re (unl l))

theorem unl_lab {c : Prg} (h : Good c) : Unl (Lab c) = c := by
  unfold Unl Lab
  rw [List.map_map]
  conv => rhs; rw [← List.map_id c]
  refine List.map_congr_left fun x hx => ?_
  rw [Function.comp_apply, re_re]
  have e : re (fun t => unl (c.map (re (lab c))) (lab c t)) x = re (fun t => t) x := by
    refine re_congr fun ht => ?_
    obtain ⟨t, e, hl, hc⟩ := h x hx ht
    rw [e]
    simp only [unl, lab, Int.toNat_natCast, pos_re]
    rw [pos_cnt c t hl hc]
  rw [e, re_id]; rfl

theorem lab_inj {c d : Prg} (hc : Good c) (hd : Good d) (h : Lab c = Lab d) : c = d := by
  rw [← unl_lab hc, ← unl_lab hd, h]

/-- Two adjacent instructions that cancel are taken out of the code: its targets turn by f, and it stays good. -/
theorem Lab_eq {c d : Prg} {f : Int → Int} {l : Prg} (hd : d = l.map (re f)) (hf : ∀ x ∈ l, tgt x = true → lab d (f x.target.1) = lab c x.target.1) : Lab d = l.map (re (lab c)) := by
  unfold Lab
  conv => lhs; rw [hd]
  rw [List.map_map]
  refine List.map_congr_left fun x hx => ?_
  rw [Function.comp_apply, re_re]
  refine re_congr fun ht => ?_
  rw [← hd]; exact hf x hx ht

/- The reference. -/
theorem shI_re (k : Int) (x : Ins) : shI k x = re (fun t => shT t k) x := by
  by_cases h : tgt x = true
  · have h' := h
    rw [tgt_ops, decide_eq_true_eq] at h'
    rw [re, if_pos h]
    unfold Ins.target targetP Ins.retarget shI
    by_cases h1 : x.op = 22 ∨ x.op = 25 ∨ x.op = 30 ∨ x.op = 31 ∨ x.op = 32 ∨ x.op = 33
    · simp only [retA, retB, if_pos h1, if_neg (show ¬ (x.op = 23 ∨ x.op = 24 ∨ x.op = 26 ∨ x.op = 27) by omega)]
    · simp only [retA, retB, if_neg h1, if_pos (show x.op = 23 ∨ x.op = 24 ∨ x.op = 26 ∨ x.op = 27 by omega)]
  · rw [re, if_neg h]
    rw [tgt_ops, decide_eq_true_eq] at h
    unfold shI retA retB
    rw [if_neg (by omega), if_neg (by omega)]
theorem remPre_eq (c : Prg) (k : Nat) (i : Nat) (hi : i ≤ c.length) : remPre c k i = ((c.take (min i k)) ++ (c.take i).drop (k + 2)).map (re (fun t => shT t k)) := by
  induction i with
  | zero => simp [remPre]
  | succ i ih =>
    have ih := ih (by omega)
    have e : c.take (i + 1) = c.take i ++ [c.getD i default] := by
      rw [List.take_add_one]; simp [List.getD_eq_getElem?_getD, show i < c.length by omega]
    rw [remPre]
    by_cases h : i = k ∨ i = k + 1
    · rw [if_pos h, ih]
      have e1 : min i k = k := by omega
      have e2 : min (i + 1) k = k := by omega
      rw [e1, e2, List.drop_eq_nil_of_le (by simp; omega), List.drop_eq_nil_of_le (by simp; omega)]
    · rw [if_neg h, ih, shI_re]
      rcases Nat.lt_or_ge i k with hlt | hge
      · have e1 : min i k = i := by omega
        have e2 : min (i + 1) k = i + 1 := by omega
        rw [e1, e2, List.drop_eq_nil_of_le (by simp; omega), List.drop_eq_nil_of_le (by simp; omega), e]
        simp
      · have e1 : min i k = k := by omega
        have e2 : min (i + 1) k = k := by omega
        rw [e1, e2, e, List.drop_append_of_le_length (by simp; omega)]
        simp
theorem removeAt_eq (c : Prg) (k : Nat) (hk : k ≤ c.length) : removeAt c k = (c.take k ++ c.drop (k + 2)).map (re (fun t => shT t k)) := by
  unfold removeAt
  rw [remPre_eq c k _ (Nat.le_refl _), List.take_length]
  have : min c.length k = k := by omega
  rw [this]
theorem split_at (c : Prg) (k : Nat) (h : k + 1 < c.length) : c = c.take k ++ c.getD k default :: c.getD (k + 1) default :: c.drop (k + 2) := by
  have h1 : c.drop k = c.getD k default :: c.drop (k + 1) := by
    rw [List.drop_eq_getElem_cons (by omega)]; simp [List.getD_eq_getElem?_getD, show k < c.length by omega]
  have h2 : c.drop (k + 1) = c.getD (k + 1) default :: c.drop (k + 2) := by
    rw [List.drop_eq_getElem_cons (by omega)]; simp [List.getD_eq_getElem?_getD, h]
  conv => lhs; rw [← List.take_append_drop k c, h1, h2]

section
variable {l r : Prg} {a b : Ins}
/-- The index of an instruction of l ++ r in l ++ a :: b :: r, and back. -/
theorem cnt_pair (ha : ctl a = false) (hb : ctl b = false) (t : Nat) (h1 : t ≠ l.length) (h2 : t ≠ l.length + 1) :
    cnt (l ++ r) (if l.length < t then t - 2 else t) = cnt (l ++ a :: b :: r) t := by
  rcases Nat.lt_or_ge l.length t with h | h
  · rw [if_pos h, cnt_append, cnt_append, if_neg (show ¬ t ≤ l.length by omega)]
    obtain ⟨s, rfl⟩ : ∃ s, t = l.length + (s + 2) := ⟨t - l.length - 2, by omega⟩
    have e1 : l.length + (s + 2) - 2 = l.length + s := by omega
    have e2 : l.length + (s + 2) - l.length = s + 2 := by omega
    rw [e1, e2]
    simp only [cnt, ha, hb]
    have e3 : l.length + s - l.length = s := by omega
    rw [e3]
    rcases Nat.eq_zero_or_pos s with rfl | hs
    · rw [if_pos (by omega), cnt_zero]; simp
    · rw [if_neg (by omega)]; simp
  · rw [if_neg (show ¬ l.length < t by omega), cnt_append, cnt_append, if_pos h, if_pos h]
theorem getD_pair (t : Nat) (h1 : t ≠ l.length) (h2 : t ≠ l.length + 1) : (l ++ r).getD (if l.length < t then t - 2 else t) default = (l ++ a :: b :: r).getD t default := by
  rcases Nat.lt_or_ge l.length t with h | h
  · rw [if_pos h]
    obtain ⟨s, rfl⟩ : ∃ s, t = l.length + (s + 2) := ⟨t - l.length - 2, by omega⟩
    have e1 : l.length + (s + 2) - 2 = l.length + s := by omega
    rw [e1, List.getD_eq_getElem?_getD, List.getD_eq_getElem?_getD, List.getElem?_append_right (by omega), List.getElem?_append_right (by omega)]
    have e2 : l.length + s - l.length = s := by omega
    have e3 : l.length + (s + 2) - l.length = s + 2 := by omega
    rw [e2, e3]; simp
  · have hlt : t < l.length := by omega
    rw [if_neg (by omega), getD_left _ _ hlt, getD_left _ _ hlt]
theorem getD_re (f : Int → Int) (l : Prg) (t : Nat) (h : t < l.length) : (l.map (re f)).getD t default = re f (l.getD t default) := by
  simp [List.getD_eq_getElem?_getD, h]
end

theorem remove_good {c : Prg} {k : Nat} (hg : Good c) (h : k + 1 < c.length) (hc : cancels (c.getD k default) (c.getD (k + 1) default) = true) :
    Good (removeAt c k) ∧ nf (Lab (removeAt c k)) = nf (Lab c) := by
  have hl : (c.take k).length = k := by simp; omega
  have hs := split_at c k h
  have hr := removeAt_eq c k (by omega)
  obtain ⟨ca, cb⟩ := cancels_ctl hc
  generalize c.getD k default = a at *
  generalize c.getD (k + 1) default = b at *
  generalize c.take k = l at *
  generalize c.drop (k + 2) = r at *
  subst hl
  generalize removeAt c l.length = d at *
  have hlen : d.length = l.length + r.length := by rw [hr]; simp
  have hclen : c.length = l.length + (r.length + 2) := by rw [hs]; simp
  -- where a target goes
  have hT : ∀ x ∈ l ++ r, tgt x = true → ∃ t : Nat, x.target.1 = (t : Int) ∧ t < c.length ∧ ctl (c.getD t default) = true ∧ t ≠ l.length ∧ t ≠ l.length + 1 ∧ shT (t : Int) (l.length : Nat) = ((if l.length < t then t - 2 else t : Nat) : Int) := by
    intro x hx ht
    obtain ⟨t, e, h1, h2⟩ := hg x (by rw [hs]; simp at hx ⊢; rcases hx with h | h <;> simp [h]) ht
    have n1 : t ≠ l.length := by
      rintro rfl
      have : c.getD l.length default = a := by rw [hs]; simp [List.getD_eq_getElem?_getD]
      rw [this] at h2; unfold ctl at h2; rw [ca] at h2; cases h2
    have n2 : t ≠ l.length + 1 := by
      rintro rfl
      have : c.getD (l.length + 1) default = b := by rw [hs]; simp [List.getD_eq_getElem?_getD]
      rw [this] at h2; unfold ctl at h2; rw [cb] at h2; cases h2
    refine ⟨t, e, h1, h2, n1, n2, ?_⟩
    unfold shT
    by_cases hlt : l.length < t
    · rw [if_pos hlt, if_pos (by omega)]; omega
    · rw [if_neg hlt, if_neg (by omega)]
  refine ⟨fun y hy ht => ?_, ?_⟩
  · rw [hr] at hy
    obtain ⟨x, hx, rfl⟩ := List.mem_map.1 hy
    rw [re_tgt] at ht
    obtain ⟨t, e, h1, h2, n1, n2, hsh⟩ := hT x hx ht
    refine ⟨_, by rw [re_target _ ht, e, hsh], ?_, ?_⟩
    · rw [hlen]; split <;> omega
    · rw [hr, getD_re _ _ _ (by simp; split <;> omega), re_ctl, getD_pair (a := a) (b := b) t n1 n2, ← hs]
      exact h2
  · have e1 : Lab d = (l ++ r).map (re (lab c)) := by
      refine Lab_eq (l := l ++ r) hr fun x hx ht => ?_
      obtain ⟨t, e, h1, h2, n1, n2, hsh⟩ := hT x hx ht
      rw [e]
      simp only [hsh, lab, Int.toNat_natCast]
      rw [hr, cnt_re, cnt_pair (a := a) (b := b) ca cb t n1 n2, ← hs]
    have e2 : Lab c = (l ++ a :: b :: r).map (re (lab c)) := by
      conv => lhs; unfold Lab
      exact congrArg (fun z => List.map (re (lab c)) z) hs
    rw [e1, e2, List.map_append, List.map_append, List.map_cons, List.map_cons]
    exact (nf_pair (by rw [re_cancels]; exact hc)).symm

theorem cancels_valid {a b : Ins} (h : a.valid = true) : refCancels a b = cancels a b := by unfold refCancels cancels; rw [h]; simp

end Bk
