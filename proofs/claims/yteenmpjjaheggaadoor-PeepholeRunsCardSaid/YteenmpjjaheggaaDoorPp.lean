/- Several texts in one: PeepS Red Lab Emb OptP Norm. -/
import Derived.Test.YteenmpjjaheggaaDoorPa
set_option linter.unusedVariables false
set_option linter.unusedSimpArgs false
/- Plain: the peephole optimizer and its reference. -/
set_option linter.unusedVariables false
namespace Bk

/-- Opcodes that are never removed. -/
def ctlB (op : Int) : Bool := decide (op = 0 ∨ (21 ≤ op ∧ op ≤ 27) ∨ 30 ≤ op)

def rinv (op : Int) : Int :=
  if op = 1 then 2 else if op = 2 then 1 else if op = 4 then 5 else if op = 5 then 4
  else if op = 12 then 13 else if op = 13 then 12 else if op = 17 then 18 else if op = 18 then 17
  else if op = 19 then 20 else if op = 20 then 19 else if op = 28 then 29 else if op = 29 then 28 else op

/-- Two instructions, the first of which is valid, cancel. -/
def cancels (a b : Ins) : Bool := a.valid && (!ctlB a.op && decide ({ a with op := rinv a.op } = b))
def refCancels (a b : Ins) : Bool := !ctlB a.op && decide ({ a with op := rinv a.op } = b)

theorem rinv_eq (op : Int) (h : ctlB op = false) : rinv op = inv op := by
  have h := of_decide_eq_false h
  by_cases hs : op = 1 ∨ op = 2 ∨ op = 4 ∨ op = 5 ∨ op = 12 ∨ op = 13 ∨ op = 17 ∨ op = 18 ∨ op = 19 ∨ op = 20 ∨ op = 28 ∨ op = 29
  · rcases hs with rfl | rfl | rfl | rfl | rfl | rfl | rfl | rfl | rfl | rfl | rfl | rfl <;> rfl
  · unfold rinv inv
    rw [if_neg (by omega), if_neg (by omega), if_neg (by omega), if_neg (by omega), if_neg (by omega), if_neg (by omega), if_neg (by omega), if_neg (by omega), if_neg (by omega), if_neg (by omega), if_neg (by omega), if_neg (by omega), if_neg (by omega), if_neg (by omega), if_neg (by omega), if_neg (by omega), if_neg (by omega), if_neg (by omega), if_neg (by omega), if_neg (by omega), if_neg (by omega), if_neg (by omega), if_neg (by omega), if_neg (by omega), if_neg (by omega), if_neg (by omega), if_neg (by omega), if_neg (by omega), if_neg (by omega), if_neg (by omega), if_neg (by omega), if_neg (by omega)]

/-- What is kept of the first i instructions: indices, the last one first. -/
def keepAt (code : Prg) : Nat → List Nat
  | 0 => []
  | i + 1 => match keepAt code i with
    | [] => [i]
    | k :: rest => if cancels (code.getD k default) (code.getD i default) then rest else i :: k :: rest

theorem keepAt_lt (code : Prg) (i : Nat) : ∀ k ∈ keepAt code i, k < i := by
  induction i with
  | zero => intro k hk; cases hk
  | succ i ih =>
    intro k hk
    rw [keepAt] at hk
    cases h : keepAt code i with
    | nil => rw [h] at hk; simp at hk; omega
    | cons j rest =>
      rw [h] at hk ih
      simp only at hk
      split at hk
      · have := ih k (List.mem_cons_of_mem _ hk); omega
      · rcases List.mem_cons.1 hk with rfl | hk
        · omega
        · have := ih k hk; omega
theorem keepAt_length (code : Prg) (i : Nat) : (keepAt code i).length ≤ i := by
  induction i with
  | zero => simp [keepAt]
  | succ i ih =>
    rw [keepAt]
    cases h : keepAt code i with
    | nil => simp
    | cons j rest =>
      rw [h] at ih
      simp only
      split <;> simp at * <;> omega

/-- The table of the new indices behind j rounds: kl are the kept indices in ascending order. -/
def idxA (kl : List Nat) : Nat → Nat → Int
  | 0, _ => 0
  | j + 1, t => if t = kl.getD j 0 then (j : Int) else idxA kl j t

/-- The kept instruction with index k, with its new target. -/
def relink (code : Prg) (kl : List Nat) (k : Nat) : Ins :=
  if (code.getD k default).target.2 = true then (code.getD k default).retarget (idxA kl kl.length (code.getD k default).target.1.toNat) else code.getD k default

/-- The kept indices in ascending order. -/
def kept (code : Prg) : List Nat := (keepAt code code.length).reverse
def optCode (code : Prg) : Prg := (kept code).map (relink code (kept code))
def optimize (im : Img) : Img × Int := if im.check.2 = 0 then ({ im with code := optCode im.code }, 0) else (⟨[], 0, 0⟩, im.check.2)
def removed (im : Img) : Int := if im.check.2 = 0 then (im.code.length : Int) - (optCode im.code).length else 0

theorem kept_lt (code : Prg) : ∀ k ∈ kept code, k < code.length := fun k hk => keepAt_lt code _ k (List.mem_reverse.1 hk)
theorem kept_length (code : Prg) : (kept code).length ≤ code.length := by have := keepAt_length code code.length; simpa [kept] using this
theorem optCode_length (code : Prg) : (optCode code).length = (kept code).length := by simp [optCode]

theorem idxA_range (kl : List Nat) (j t : Nat) : 0 ≤ idxA kl j t ∧ idxA kl j t ≤ j := by
  induction j with
  | zero => simp [idxA]
  | succ j ih => simp only [idxA]; split <;> omega

theorem relink_wf {code : Prg} (hw : CodeWf code) (hl : code.length ≤ 65536) {k : Nat} (hk : k < code.length) : (relink code (kept code) k).Wf := by
  unfold relink
  have h := hw k hk
  split
  · have hr := idxA_range (kept code) (kept code).length (code.getD k default).target.1.toNat
    have hkl := kept_length code
    generalize idxA (kept code) (kept code).length (code.getD k default).target.1.toNat = t at *
    have ha : -9223372036854775808 ≤ retA (code.getD k default).op (code.getD k default).a t ∧ retA (code.getD k default).op (code.getD k default).a t ≤ 9223372036854775807 := by
      unfold retA; have := h.a0; have := h.a1; split <;> omega
    have hb : -9223372036854775808 ≤ retB (code.getD k default).op (code.getD k default).b t ∧ retB (code.getD k default).op (code.getD k default).b t ≤ 9223372036854775807 := by
      unfold retB; have := h.b0; have := h.b1; split <;> omega
    exact ⟨h.op0, h.op1, ha.1, ha.2, hb.1, hb.2, h.c0, h.c1, h.d0, h.d1⟩
  · exact h

theorem optCode_wf {code : Prg} (hw : CodeWf code) (hl : code.length ≤ 65536) : CodeWf (optCode code) := by
  intro k hk
  have hk' : k < (kept code).length := by rwa [optCode_length] at hk
  have e : (optCode code).getD k default = relink code (kept code) ((kept code)[k]) := by
    simp [optCode, List.getD_eq_getElem?_getD, hk']
  rw [e]
  exact relink_wf hw hl (kept_lt code _ (List.getElem_mem hk'))

/-- The reference: a target behind the removed pair; an instruction with its new target; the code without the pair at k. -/
def shT (t k : Int) : Int := if k < t then t - 2 else t
def shI (k : Int) (x : Ins) : Ins := ⟨x.op, retA x.op x.a (shT x.a k), retB x.op x.b (shT x.b k), x.c, x.d⟩
def remPre (c : Prg) (k : Nat) : Nat → Prg
  | 0 => []
  | i + 1 => if i = k ∨ i = k + 1 then remPre c k i else remPre c k i ++ [shI k (c.getD i default)]
def removeAt (c : Prg) (k : Nat) : Prg := remPre c k c.length
theorem remPre_length (c : Prg) (k i : Nat) : (remPre c k i).length = i - (if k + 1 < i then 2 else if k < i then 1 else 0) := by
  induction i with
  | zero => simp [remPre]
  | succ i ih =>
    rw [remPre]
    by_cases h1 : i = k
    · subst h1
      rw [if_pos (.inl rfl), ih, if_neg (by omega), if_neg (by omega), if_neg (by omega), if_pos (by omega)]; omega
    · by_cases h2 : i = k + 1
      · subst h2
        rw [if_pos (.inr rfl), ih, if_neg (by omega), if_pos (by omega), if_pos (by omega)]; omega
      · rw [if_neg (by omega), List.length_append, ih]
        simp only [List.length_cons, List.length_nil]
        by_cases h3 : k + 1 < i
        · rw [if_pos h3, if_pos (by omega)]; omega
        · rw [if_neg h3, if_neg (by omega), if_neg (by omega), if_neg (by omega)]; omega
theorem removeAt_length (c : Prg) (k : Nat) (h : k + 1 < c.length) : (removeAt c k).length = c.length - 2 := by
  unfold removeAt; rw [remPre_length, if_pos h]

/-- The reference's loop: j - 1 is the index to be looked at next. -/
def refLoop (c : Prg) (j : Nat) : Prg :=
  match j with
  | 0 => c
  | k + 1 => if h : k + 1 < c.length ∧ refCancels (c.getD k default) (c.getD (k + 1) default) = true then refLoop (removeAt c k) (removeAt c k).length else refLoop c k
termination_by (c.length, j)
decreasing_by
  · apply Prod.Lex.left; rw [removeAt_length c k h.1]; omega
  · apply Prod.Lex.right; omega
def refOpt (c : Prg) : Prg := refLoop c (c.length - 1)

theorem shI_wf {k : Int} (hk : 0 ≤ k) {x : Ins} (h : x.Wf) : (shI k x).Wf := by
  have ha : -9223372036854775808 ≤ retA x.op x.a (shT x.a k) ∧ retA x.op x.a (shT x.a k) ≤ 9223372036854775807 := by
    unfold retA shT; have := h.a0; have := h.a1; split <;> (try split) <;> omega
  have hb : -9223372036854775808 ≤ retB x.op x.b (shT x.b k) ∧ retB x.op x.b (shT x.b k) ≤ 9223372036854775807 := by
    unfold retB shT; have := h.b0; have := h.b1; split <;> (try split) <;> omega
  exact ⟨h.op0, h.op1, ha.1, ha.2, hb.1, hb.2, h.c0, h.c1, h.d0, h.d1⟩
theorem remPre_mem (c : Prg) (k i : Nat) (hi : i ≤ c.length) : ∀ y ∈ remPre c k i, ∃ j, j < c.length ∧ y = shI k (c.getD j default) := by
  induction i with
  | zero => intro y hy; cases hy
  | succ i ih =>
    intro y hy
    rw [remPre] at hy
    split at hy
    · exact ih (by omega) y hy
    · rcases List.mem_append.1 hy with h | h
      · exact ih (by omega) y h
      · simp at h; exact ⟨i, by omega, h⟩
theorem removeAt_wf {c : Prg} (hw : CodeWf c) (k : Nat) : CodeWf (removeAt c k) := by
  intro j hj
  have hm : (removeAt c k).getD j default ∈ removeAt c k := by
    rw [List.getD_eq_getElem?_getD, List.getElem?_eq_getElem hj]; exact List.getElem_mem hj
  obtain ⟨q, hq, e⟩ := remPre_mem c k c.length (Nat.le_refl _) _ hm
  rw [e]
  exact shI_wf (by omega) (hw q hq)
theorem refLoop_zero (c : Prg) : refLoop c 0 = c := by rw [refLoop]
theorem refLoop_rem (c : Prg) (k : Nat) (h : k + 1 < c.length ∧ refCancels (c.getD k default) (c.getD (k + 1) default) = true) : refLoop c (k + 1) = refLoop (removeAt c k) (removeAt c k).length := by
  rw [refLoop, dif_pos h]
theorem refLoop_skip (c : Prg) (k : Nat) (h : ¬ (k + 1 < c.length ∧ refCancels (c.getD k default) (c.getD (k + 1) default) = true)) : refLoop c (k + 1) = refLoop c k := by
  rw [refLoop, dif_neg h]
end Bk

/- Plain: pairs that cancel: a word has one reduced form; the optimizer's and the reference's code are that form. -/
set_option linter.unusedVariables false
namespace Bk

theorem rinv_cases (op : Int) : (op = 1 ∨ op = 2 ∨ op = 4 ∨ op = 5 ∨ op = 12 ∨ op = 13 ∨ op = 17 ∨ op = 18 ∨ op = 19 ∨ op = 20 ∨ op = 28 ∨ op = 29) ∨ rinv op = op := by
  by_cases hs : op = 1 ∨ op = 2 ∨ op = 4 ∨ op = 5 ∨ op = 12 ∨ op = 13 ∨ op = 17 ∨ op = 18 ∨ op = 19 ∨ op = 20 ∨ op = 28 ∨ op = 29
  · exact .inl hs
  · refine .inr ?_
    unfold rinv
    rw [if_neg (by omega), if_neg (by omega), if_neg (by omega), if_neg (by omega), if_neg (by omega), if_neg (by omega), if_neg (by omega), if_neg (by omega), if_neg (by omega), if_neg (by omega), if_neg (by omega), if_neg (by omega)]

theorem rinv_spec (op a b c d : Int) (h : ctlB op = false) : validB (rinv op) a b c d = validB op a b c d ∧ ctlB (rinv op) = false ∧ rinv (rinv op) = op := by
  rcases rinv_cases op with hs | hs
  · rcases hs with rfl | rfl | rfl | rfl | rfl | rfl | rfl | rfl | rfl | rfl | rfl | rfl <;> exact ⟨rfl, rfl, rfl⟩
  · rw [hs]; exact ⟨rfl, h, hs⟩

theorem cancels_iff {a b : Ins} : cancels a b = true ↔ a.valid = true ∧ ctlB a.op = false ∧ b = { a with op := rinv a.op } := by
  unfold cancels
  simp only [Bool.and_eq_true, Bool.not_eq_true', decide_eq_true_eq]
  constructor
  · rintro ⟨h1, h2, h3⟩; exact ⟨h1, h2, h3.symm⟩
  · rintro ⟨h1, h2, h3⟩; exact ⟨h1, h2, h3.symm⟩
theorem cancels_symm {a b : Ins} (h : cancels a b = true) : cancels b a = true := by
  rw [cancels_iff] at h ⊢
  obtain ⟨h1, h2, rfl⟩ := h
  obtain ⟨r1, r2, r3⟩ := rinv_spec a.op a.a a.b a.c a.d h2
  refine ⟨?_, r2, ?_⟩
  · show validB (rinv a.op) a.a a.b a.c a.d = true
    rw [r1]; exact h1
  · simp only [r3]
theorem cancels_right {a b c : Ins} (h : cancels a b = true) (h' : cancels a c = true) : b = c := by
  rw [cancels_iff] at h h'; rw [h.2.2, h'.2.2]
theorem cancels_twice {a b c : Ins} (h : cancels a b = true) (h' : cancels b c = true) : a = c := cancels_right (cancels_symm h) h'
theorem cancels_ctl {a b : Ins} (h : cancels a b = true) : ctlB a.op = false ∧ ctlB b.op = false :=
  ⟨(cancels_iff.1 h).2.1, (cancels_iff.1 (cancels_symm h)).2.1⟩

/-- One instruction more; the last one stands first. -/
def push (s : List Ins) (x : Ins) : List Ins := match s with
  | [] => [x]
  | p :: s' => if cancels p x then s' else x :: p :: s'
def Reduced : List Ins → Prop
  | [] => True
  | x :: s => (∀ p ∈ s.head?, cancels p x = false) ∧ Reduced s
theorem push_nil (x : Ins) : push [] x = [x] := rfl
theorem push_cons (p x : Ins) (s : List Ins) : push (p :: s) x = if cancels p x then s else x :: p :: s := rfl
theorem push_reduced {s : List Ins} (h : Reduced s) (x : Ins) : Reduced (push s x) := by
  cases s with
  | nil => exact ⟨by simp, trivial⟩
  | cons p s =>
    rw [push_cons]
    split
    · exact h.2
    · rename_i hn
      exact ⟨by simpa using hn, h⟩
def red (s : List Ins) (l : List Ins) : List Ins := l.foldl push s
theorem red_append (s l r : List Ins) : red s (l ++ r) = red (red s l) r := List.foldl_append
theorem red_cons (s : List Ins) (x : Ins) (l : List Ins) : red s (x :: l) = red (push s x) l := rfl
theorem red_nil (s : List Ins) : red s [] = s := rfl
theorem red_reduced {s : List Ins} (h : Reduced s) (l : List Ins) : Reduced (red s l) := by
  induction l generalizing s with
  | nil => exact h
  | cons x l ih => exact ih (push_reduced h x)

theorem push_pair {s : List Ins} (h : Reduced s) {a b : Ins} (hc : cancels a b = true) : push (push s a) b = s := by
  cases s with
  | nil => rw [push_nil, push_cons, if_pos hc]
  | cons p s =>
    rw [push_cons]
    by_cases hp : cancels p a = true
    · rw [if_pos hp]
      have e : p = b := cancels_twice hp hc
      subst e
      cases s with
      | nil => rfl
      | cons q s =>
        rw [push_cons, if_neg (by have := h.1 q (by simp); simp [this])]
    · rw [if_neg hp, push_cons, if_pos hc]
theorem red_pair {l r : List Ins} {a b : Ins} (hc : cancels a b = true) : red [] (l ++ a :: b :: r) = red [] (l ++ r) := by
  rw [red_append, red_append, red_cons, red_cons, push_pair (red_reduced (by trivial) l) hc]

/-- A word that bears no pair is its own reduced form. -/
theorem red_rev {l s : List Ins} (h : Reduced (l.reverse ++ s)) : red s l = l.reverse ++ s := by
  induction l generalizing s with
  | nil => rfl
  | cons x l ih =>
    have e : (x :: l).reverse ++ s = l.reverse ++ (x :: s) := by simp
    rw [e] at h ⊢
    rw [red_cons]
    have hp : push s x = x :: s := by
      have h2 : Reduced (x :: s) := by
        clear ih e
        generalize l.reverse = r at h
        induction r with
        | nil => exact h
        | cons y r ih => exact ih h.2
      cases s with
      | nil => rfl
      | cons p s => rw [push_cons, if_neg (by have := h2.1 p (by simp); simp [this])]
    rw [hp]
    exact ih h
theorem red_self {s : List Ins} (h : Reduced s) : red [] s.reverse = s := by
  have := red_rev (l := s.reverse) (s := []) (by simpa using h)
  simpa using this

/-- The reduced form, the first one first. -/
def nf (l : List Ins) : List Ins := (red [] l).reverse
theorem nf_pair {l r : List Ins} {a b : Ins} (hc : cancels a b = true) : nf (l ++ a :: b :: r) = nf (l ++ r) := by unfold nf; rw [red_pair hc]
theorem nf_nf (l : List Ins) : nf (nf l) = nf l := by unfold nf; rw [red_self (red_reduced (by trivial) l)]
theorem nf_of {l : List Ins} (h : Reduced l.reverse) : nf l = l := by
  unfold nf; have := red_self h; rw [List.reverse_reverse] at this; rw [this, List.reverse_reverse]

theorem getD_left (l r : List Ins) {k : Nat} (h : k < l.length) : (l ++ r).getD k default = l.getD k default := by
  rw [List.getD_eq_getElem?_getD, List.getD_eq_getElem?_getD, List.getElem?_append_left h]

/-- Adjacent instructions of a list do not cancel. -/
def NoPair (l : List Ins) : Prop := ∀ k, k + 1 < l.length → cancels (l.getD k default) (l.getD (k + 1) default) = false
theorem reduced_of_noPair : ∀ (l s : List Ins), Reduced s → (∀ p ∈ s.head?, ∀ x ∈ l.head?, cancels p x = false) → NoPair l → Reduced (l.reverse ++ s)
  | [], s, hs, _, _ => hs
  | x :: l, s, hs, h1, h2 => by
    have e : (x :: l).reverse ++ s = l.reverse ++ (x :: s) := by simp
    rw [e]
    refine reduced_of_noPair l (x :: s) ⟨fun p hp => h1 p hp x (by simp), hs⟩ ?_ ?_
    · intro p hp y hy
      simp at hp; subst hp
      cases l with
      | nil => simp at hy
      | cons z l =>
        simp at hy; subst hy
        have := h2 0 (by simp)
        simpa using this
    · intro k hk
      have := h2 (k + 1) (by simp; omega)
      simpa using this
theorem nf_noPair {l : List Ins} (h : NoPair l) : nf l = l := nf_of (by have := reduced_of_noPair l [] (by trivial) (by simp) h; simpa using this)
theorem noPair_of_reduced : ∀ (s : List Ins), Reduced s → NoPair s.reverse
  | [], _ => fun k hk => by simp at hk
  | x :: s, h => by
    have ih := noPair_of_reduced s h.2
    intro k hk
    simp only [List.reverse_cons, List.length_append, List.length_reverse, List.length_cons, List.length_nil] at hk
    by_cases hlt : k + 1 < s.length
    · have := ih k (by simpa using hlt)
      simp only [List.reverse_cons]
      rw [getD_left _ _ (by simp; omega), getD_left _ _ (by simp; omega)]
      exact this
    · obtain ⟨p, hp⟩ : ∃ p, s.head? = some p := by
        cases s with
        | nil => simp at hk
        | cons p s => exact ⟨p, rfl⟩
      have h1 := h.1 p (by rw [hp]; rfl)
      have hk' : k = s.length - 1 := by omega
      have e1 : (s.reverse ++ [x]).getD (k + 1) default = x := by
        rw [List.getD_eq_getElem?_getD, List.getElem?_append_right (by simp; omega)]
        have : k + 1 - s.reverse.length = 0 := by simp; omega
        rw [this]; rfl
      have e2 : (s.reverse ++ [x]).getD k default = p := by
        rw [List.getD_eq_getElem?_getD, List.getElem?_append_left (by simp; omega), List.getElem?_reverse (by omega)]
        have : s.length - 1 - k = 0 := by omega
        rw [this]
        cases s with
        | nil => simp at hp
        | cons q s => simp at hp; subst hp; rfl
      simp only [List.reverse_cons]
      rw [e1, e2]; exact h1
theorem nf_noPairs (l : List Ins) : NoPair (nf l) := noPair_of_reduced _ (red_reduced (by trivial) l)

theorem keepAt_red (code : Prg) (i : Nat) (h : i ≤ code.length) : (keepAt code i).map (fun k => code.getD k default) = red [] (code.take i) := by
  induction i with
  | zero => simp [keepAt, red]
  | succ i ih =>
    have hi : i < code.length := by omega
    have e : code.take (i + 1) = code.take i ++ [code.getD i default] := by
      rw [List.take_add_one]; simp [List.getD_eq_getElem?_getD, hi]
    have ih := ih (by omega)
    rw [e, red_append, ← ih, keepAt, red_cons, red_nil]
    cases keepAt code i with
    | nil => rfl
    | cons k rest =>
      simp only [List.map_cons, push_cons]
      split <;> rfl
theorem kept_nf (code : Prg) : (kept code).map (fun k => code.getD k default) = nf code := by
  unfold kept nf
  rw [List.map_reverse, keepAt_red code _ (Nat.le_refl _), List.take_length]

end Bk

/- Plain: targets written as numbers of control instructions; the optimized code is the reduced word. -/
set_option linter.unusedVariables false
namespace Bk

def tgt (x : Ins) : Bool := x.target.2
theorem tgt_ops (x : Ins) : tgt x = decide ((x.op = 22 ∨ x.op = 25 ∨ x.op = 30 ∨ x.op = 31 ∨ x.op = 32 ∨ x.op = 33) ∨ x.op = 23 ∨ x.op = 24 ∨ x.op = 26 ∨ x.op = 27) := by
  unfold tgt Ins.target targetP
  split
  · simp; omega
  · split
    · simp; omega
    · simp; omega
theorem tgt_ctl {x : Ins} (h : tgt x = true) : ctlB x.op = true := by
  rw [tgt_ops, decide_eq_true_eq] at h
  unfold ctlB; rw [decide_eq_true_eq]; omega
theorem ret_op (x : Ins) (t : Int) : (x.retarget t).op = x.op := rfl
theorem ret_tgt (x : Ins) (t : Int) : tgt (x.retarget t) = tgt x := by rw [tgt_ops, tgt_ops, ret_op]
theorem ret_target {x : Ins} (h : tgt x = true) (t : Int) : (x.retarget t).target.1 = t := by
  rw [tgt_ops, decide_eq_true_eq] at h
  unfold Ins.target targetP Ins.retarget retA retB
  simp only
  by_cases h1 : x.op = 22 ∨ x.op = 25 ∨ x.op = 30 ∨ x.op = 31 ∨ x.op = 32 ∨ x.op = 33
  · rw [if_pos h1, if_pos h1]
  · rw [if_neg h1, if_pos (by omega), if_pos (by omega)]
theorem ret_ret (x : Ins) (s t : Int) : (x.retarget s).retarget t = x.retarget t := by
  unfold Ins.retarget retA retB
  simp only
  congr 1
  · split <;> rfl
  · split <;> rfl
theorem ret_self {x : Ins} (h : tgt x = true) : x.retarget x.target.1 = x := by
  rw [tgt_ops, decide_eq_true_eq] at h
  unfold Ins.target targetP Ins.retarget retA retB
  by_cases h1 : x.op = 22 ∨ x.op = 25 ∨ x.op = 30 ∨ x.op = 31 ∨ x.op = 32 ∨ x.op = 33
  · simp only [if_pos h1, if_neg (show ¬ (x.op = 23 ∨ x.op = 24 ∨ x.op = 26 ∨ x.op = 27) by omega)]
  · simp only [if_neg h1, if_pos (show x.op = 23 ∨ x.op = 24 ∨ x.op = 26 ∨ x.op = 27 by omega)]

/-- A target turned by f. -/
def re (f : Int → Int) (x : Ins) : Ins := if tgt x = true then x.retarget (f x.target.1) else x
theorem re_op (f : Int → Int) (x : Ins) : (re f x).op = x.op := by unfold re; split <;> rfl
theorem re_tgt (f : Int → Int) (x : Ins) : tgt (re f x) = tgt x := by rw [tgt_ops, tgt_ops, re_op]
theorem re_target (f : Int → Int) {x : Ins} (h : tgt x = true) : (re f x).target.1 = f x.target.1 := by unfold re; rw [if_pos h, ret_target h]
theorem re_re (f g : Int → Int) (x : Ins) : re g (re f x) = re (fun t => g (f t)) x := by
  by_cases h : tgt x = true
  · have h2 : tgt (re f x) = true := by rw [re_tgt]; exact h
    have e := re_target f h
    rw [re, if_pos h2, e, re, if_pos h, ret_ret, re, if_pos h]
  · have e : re f x = x := by rw [re, if_neg h]
    rw [e, re, if_neg h, re, if_neg h]
theorem re_congr {f g : Int → Int} {x : Ins} (h : tgt x = true → f x.target.1 = g x.target.1) : re f x = re g x := by
  unfold re; split
  · rename_i ht; rw [h ht]
  · rfl
theorem re_id (x : Ins) : re (fun t => t) x = x := by
  unfold re; split
  · rename_i h; exact ret_self h
  · rfl
theorem re_cancels (f g : Int → Int) (x y : Ins) : cancels (re f x) (re g y) = cancels x y := by
  by_cases hx : tgt x = true
  · have h1 : cancels x y = false := by
      cases h : cancels x y
      · rfl
      · have := (cancels_ctl h).1; rw [tgt_ctl hx] at this; cases this
    rw [h1]
    cases h : cancels (re f x) (re g y)
    · rfl
    · have := (cancels_ctl h).1; rw [re_op, tgt_ctl hx] at this; cases this
  · have ex : re f x = x := by rw [re, if_neg hx]
    rw [ex]
    by_cases hy : tgt y = true
    · have h1 : cancels x y = false := by
        cases h : cancels x y
        · rfl
        · have := (cancels_ctl h).2; rw [tgt_ctl hy] at this; cases this
      rw [h1]
      cases h : cancels x (re g y)
      · rfl
      · have := (cancels_ctl h).2; rw [re_op, tgt_ctl hy] at this; cases this
    · rw [re, if_neg hy]

theorem push_re (f : Int → Int) (s : List Ins) (x : Ins) : push (s.map (re f)) (re f x) = (push s x).map (re f) := by
  cases s with
  | nil => rfl
  | cons p s =>
    simp only [List.map_cons, push_cons, re_cancels]
    split <;> rfl
theorem red_re (f : Int → Int) (s l : List Ins) : red (s.map (re f)) (l.map (re f)) = (red s l).map (re f) := by
  induction l generalizing s with
  | nil => rfl
  | cons x l ih => rw [List.map_cons, red_cons, red_cons, push_re, ih]
theorem nf_re (f : Int → Int) (l : List Ins) : nf (l.map (re f)) = (nf l).map (re f) := by
  unfold nf; rw [List.map_reverse]; congr 1; exact red_re f [] l

/-- How many control instructions stand before index t; where the q-th one stands. -/
def ctl (x : Ins) : Bool := ctlB x.op
def cnt : Prg → Nat → Nat
  | [], _ => 0
  | _ :: _, 0 => 0
  | x :: l, t + 1 => (if ctl x = true then 1 else 0) + cnt l t
def pos : Prg → Nat → Nat
  | [], _ => 0
  | x :: l, q => if ctl x = true then (if q = 0 then 0 else pos l (q - 1) + 1) else pos l q + 1
theorem re_ctl (f : Int → Int) (x : Ins) : ctl (re f x) = ctl x := by unfold ctl; rw [re_op]
theorem cnt_re (f : Int → Int) (l : Prg) (t : Nat) : cnt (l.map (re f)) t = cnt l t := by
  induction l generalizing t with
  | nil => rfl
  | cons x l ih => cases t with
    | zero => rfl
    | succ t => simp only [List.map_cons, cnt, re_ctl, ih]
theorem pos_re (f : Int → Int) (l : Prg) (q : Nat) : pos (l.map (re f)) q = pos l q := by
  induction l generalizing q with
  | nil => rfl
  | cons x l ih => simp only [List.map_cons, pos, re_ctl, ih]
theorem cnt_zero (l : Prg) : cnt l 0 = 0 := by cases l <;> rfl
theorem pos_cnt : ∀ (l : Prg) (t : Nat), t < l.length → ctl (l.getD t default) = true → pos l (cnt l t) = t
  | [], t, h, _ => by simp at h
  | x :: l, 0, h, hc => by
    have hx : ctl x = true := by simpa using hc
    simp only [cnt, pos, hx, if_true]
  | x :: l, t + 1, h, hc => by
    have ih := pos_cnt l t (by simpa using h) (by simpa using hc)
    simp only [cnt, pos]
    by_cases hx : ctl x = true
    · simp only [hx, if_true]
      rw [if_neg (by omega), Nat.add_sub_cancel_left, ih]
    · simp only [hx]
      simp [ih]
theorem cnt_append (l r : Prg) (t : Nat) : cnt (l ++ r) t = if t ≤ l.length then cnt l t else cnt l l.length + cnt r (t - l.length) := by
  induction l generalizing t with
  | nil =>
    cases t with
    | zero => simp [cnt_zero]
    | succ t => simp [cnt]
  | cons x l ih =>
    cases t with
    | zero => simp [cnt]
    | succ t =>
      simp only [List.cons_append, cnt, ih, List.length_cons]
      by_cases h : t ≤ l.length
      · simp only [if_pos h, if_pos (show t + 1 ≤ l.length + 1 by omega)]
      · simp only [if_neg h, if_neg (show ¬ t + 1 ≤ l.length + 1 by omega)]
        have : t + 1 - (l.length + 1) = t - l.length := by omega
        rw [this]; omega

/-- Targets are indices of control instructions. -/
def Good (c : Prg) : Prop := ∀ x ∈ c, tgt x = true → ∃ t : Nat, x.target.1 = (t : Int) ∧ t < c.length ∧ ctl (c.getD t default) = true
def lab (c : Prg) (t : Int) : Int := (cnt c t.toNat : Nat)
def unl (l : Prg) (q : Int) : Int := (pos l q.toNat : Nat)
def Lab (c : Prg) : Prg := c.map (re (lab c))
def Unl (l : Prg) : Prg := l.map (re (unl l))

theorem unl_lab {c : Prg} (h : Good c) : Unl (Lab c) = c := by
  unfold Unl Lab
  rw [List.map_map]
  conv => rhs; rw [← List.map_id c]
  refine List.map_congr_left fun x hx => ?_
  rw [Function.comp_apply, re_re]
  have e : re (fun t => unl (c.map (re (lab c))) (lab c t)) x = re (fun t => t) x := by
    refine re_congr fun ht => ?_
    obtain ⟨t, e, hl, hc⟩ := h x hx ht
    rw [e]
    simp only [unl, lab, Int.toNat_natCast, pos_re]
    rw [pos_cnt c t hl hc]
  rw [e, re_id]; rfl

theorem lab_inj {c d : Prg} (hc : Good c) (hd : Good d) (h : Lab c = Lab d) : c = d := by
  rw [← unl_lab hc, ← unl_lab hd, h]

/-- Two adjacent instructions that cancel are taken out of the code: its targets turn by f, and it stays good. -/
theorem Lab_eq {c d : Prg} {f : Int → Int} {l : Prg} (hd : d = l.map (re f)) (hf : ∀ x ∈ l, tgt x = true → lab d (f x.target.1) = lab c x.target.1) : Lab d = l.map (re (lab c)) := by
  unfold Lab
  conv => lhs; rw [hd]
  rw [List.map_map]
  refine List.map_congr_left fun x hx => ?_
  rw [Function.comp_apply, re_re]
  refine re_congr fun ht => ?_
  rw [← hd]; exact hf x hx ht

/- The reference. -/
theorem shI_re (k : Int) (x : Ins) : shI k x = re (fun t => shT t k) x := by
  by_cases h : tgt x = true
  · have h' := h
    rw [tgt_ops, decide_eq_true_eq] at h'
    rw [re, if_pos h]
    unfold Ins.target targetP Ins.retarget shI
    by_cases h1 : x.op = 22 ∨ x.op = 25 ∨ x.op = 30 ∨ x.op = 31 ∨ x.op = 32 ∨ x.op = 33
    · simp only [retA, retB, if_pos h1, if_neg (show ¬ (x.op = 23 ∨ x.op = 24 ∨ x.op = 26 ∨ x.op = 27) by omega)]
    · simp only [retA, retB, if_neg h1, if_pos (show x.op = 23 ∨ x.op = 24 ∨ x.op = 26 ∨ x.op = 27 by omega)]
  · rw [re, if_neg h]
    rw [tgt_ops, decide_eq_true_eq] at h
    unfold shI retA retB
    rw [if_neg (by omega), if_neg (by omega)]
theorem remPre_eq (c : Prg) (k : Nat) (i : Nat) (hi : i ≤ c.length) : remPre c k i = ((c.take (min i k)) ++ (c.take i).drop (k + 2)).map (re (fun t => shT t k)) := by
  induction i with
  | zero => simp [remPre]
  | succ i ih =>
    have ih := ih (by omega)
    have e : c.take (i + 1) = c.take i ++ [c.getD i default] := by
      rw [List.take_add_one]; simp [List.getD_eq_getElem?_getD, show i < c.length by omega]
    rw [remPre]
    by_cases h : i = k ∨ i = k + 1
    · rw [if_pos h, ih]
      have e1 : min i k = k := by omega
      have e2 : min (i + 1) k = k := by omega
      rw [e1, e2, List.drop_eq_nil_of_le (by simp; omega), List.drop_eq_nil_of_le (by simp; omega)]
    · rw [if_neg h, ih, shI_re]
      rcases Nat.lt_or_ge i k with hlt | hge
      · have e1 : min i k = i := by omega
        have e2 : min (i + 1) k = i + 1 := by omega
        rw [e1, e2, List.drop_eq_nil_of_le (by simp; omega), List.drop_eq_nil_of_le (by simp; omega), e]
        simp
      · have e1 : min i k = k := by omega
        have e2 : min (i + 1) k = k := by omega
        rw [e1, e2, e, List.drop_append_of_le_length (by simp; omega)]
        simp
theorem removeAt_eq (c : Prg) (k : Nat) (hk : k ≤ c.length) : removeAt c k = (c.take k ++ c.drop (k + 2)).map (re (fun t => shT t k)) := by
  unfold removeAt
  rw [remPre_eq c k _ (Nat.le_refl _), List.take_length]
  have : min c.length k = k := by omega
  rw [this]
theorem split_at (c : Prg) (k : Nat) (h : k + 1 < c.length) : c = c.take k ++ c.getD k default :: c.getD (k + 1) default :: c.drop (k + 2) := by
  have h1 : c.drop k = c.getD k default :: c.drop (k + 1) := by
    rw [List.drop_eq_getElem_cons (by omega)]; simp [List.getD_eq_getElem?_getD, show k < c.length by omega]
  have h2 : c.drop (k + 1) = c.getD (k + 1) default :: c.drop (k + 2) := by
    rw [List.drop_eq_getElem_cons (by omega)]; simp [List.getD_eq_getElem?_getD, h]
  conv => lhs; rw [← List.take_append_drop k c, h1, h2]

section
variable {l r : Prg} {a b : Ins}
/-- The index of an instruction of l ++ r in l ++ a :: b :: r, and back. -/
theorem cnt_pair (ha : ctl a = false) (hb : ctl b = false) (t : Nat) (h1 : t ≠ l.length) (h2 : t ≠ l.length + 1) :
    cnt (l ++ r) (if l.length < t then t - 2 else t) = cnt (l ++ a :: b :: r) t := by
  rcases Nat.lt_or_ge l.length t with h | h
  · rw [if_pos h, cnt_append, cnt_append, if_neg (show ¬ t ≤ l.length by omega)]
    obtain ⟨s, rfl⟩ : ∃ s, t = l.length + (s + 2) := ⟨t - l.length - 2, by omega⟩
    have e1 : l.length + (s + 2) - 2 = l.length + s := by omega
    have e2 : l.length + (s + 2) - l.length = s + 2 := by omega
    rw [e1, e2]
    simp only [cnt, ha, hb]
    have e3 : l.length + s - l.length = s := by omega
    rw [e3]
    rcases Nat.eq_zero_or_pos s with rfl | hs
    · rw [if_pos (by omega), cnt_zero]; simp
    · rw [if_neg (by omega)]; simp
  · rw [if_neg (show ¬ l.length < t by omega), cnt_append, cnt_append, if_pos h, if_pos h]
theorem getD_pair (t : Nat) (h1 : t ≠ l.length) (h2 : t ≠ l.length + 1) : (l ++ r).getD (if l.length < t then t - 2 else t) default = (l ++ a :: b :: r).getD t default := by
  rcases Nat.lt_or_ge l.length t with h | h
  · rw [if_pos h]
    obtain ⟨s, rfl⟩ : ∃ s, t = l.length + (s + 2) := ⟨t - l.length - 2, by omega⟩
    have e1 : l.length + (s + 2) - 2 = l.length + s := by omega
    rw [e1, List.getD_eq_getElem?_getD, List.getD_eq_getElem?_getD, List.getElem?_append_right (by omega), List.getElem?_append_right (by omega)]
    have e2 : l.length + s - l.length = s := by omega
    have e3 : l.length + (s + 2) - l.length = s + 2 := by omega
    rw [e2, e3]; simp
  · have hlt : t < l.length := by omega
    rw [if_neg (by omega), getD_left _ _ hlt, getD_left _ _ hlt]
theorem getD_re (f : Int → Int) (l : Prg) (t : Nat) (h : t < l.length) : (l.map (re f)).getD t default = re f (l.getD t default) := by
  simp [List.getD_eq_getElem?_getD, h]
end

theorem remove_good {c : Prg} {k : Nat} (hg : Good c) (h : k + 1 < c.length) (hc : cancels (c.getD k default) (c.getD (k + 1) default) = true) :
    Good (removeAt c k) ∧ nf (Lab (removeAt c k)) = nf (Lab c) := by
  have hl : (c.take k).length = k := by simp; omega
  have hs := split_at c k h
  have hr := removeAt_eq c k (by omega)
  obtain ⟨ca, cb⟩ := cancels_ctl hc
  generalize c.getD k default = a at *
  generalize c.getD (k + 1) default = b at *
  generalize c.take k = l at *
  generalize c.drop (k + 2) = r at *
  subst hl
  generalize removeAt c l.length = d at *
  have hlen : d.length = l.length + r.length := by rw [hr]; simp
  have hclen : c.length = l.length + (r.length + 2) := by rw [hs]; simp
  -- where a target goes
  have hT : ∀ x ∈ l ++ r, tgt x = true → ∃ t : Nat, x.target.1 = (t : Int) ∧ t < c.length ∧ ctl (c.getD t default) = true ∧ t ≠ l.length ∧ t ≠ l.length + 1 ∧ shT (t : Int) (l.length : Nat) = ((if l.length < t then t - 2 else t : Nat) : Int) := by
    intro x hx ht
    obtain ⟨t, e, h1, h2⟩ := hg x (by rw [hs]; simp at hx ⊢; rcases hx with h | h <;> simp [h]) ht
    have n1 : t ≠ l.length := by
      rintro rfl
      have : c.getD l.length default = a := by rw [hs]; simp [List.getD_eq_getElem?_getD]
      rw [this] at h2; unfold ctl at h2; rw [ca] at h2; cases h2
    have n2 : t ≠ l.length + 1 := by
      rintro rfl
      have : c.getD (l.length + 1) default = b := by rw [hs]; simp [List.getD_eq_getElem?_getD]
      rw [this] at h2; unfold ctl at h2; rw [cb] at h2; cases h2
    refine ⟨t, e, h1, h2, n1, n2, ?_⟩
    unfold shT
    by_cases hlt : l.length < t
    · rw [if_pos hlt, if_pos (by omega)]; omega
    · rw [if_neg hlt, if_neg (by omega)]
  refine ⟨fun y hy ht => ?_, ?_⟩
  · rw [hr] at hy
    obtain ⟨x, hx, rfl⟩ := List.mem_map.1 hy
    rw [re_tgt] at ht
    obtain ⟨t, e, h1, h2, n1, n2, hsh⟩ := hT x hx ht
    refine ⟨_, by rw [re_target _ ht, e, hsh], ?_, ?_⟩
    · rw [hlen]; split <;> omega
    · rw [hr, getD_re _ _ _ (by simp; split <;> omega), re_ctl, getD_pair (a := a) (b := b) t n1 n2, ← hs]
      exact h2
  · have e1 : Lab d = (l ++ r).map (re (lab c)) := by
      refine Lab_eq (l := l ++ r) hr fun x hx ht => ?_
      obtain ⟨t, e, h1, h2, n1, n2, hsh⟩ := hT x hx ht
      rw [e]
      simp only [hsh, lab, Int.toNat_natCast]
      rw [hr, cnt_re, cnt_pair (a := a) (b := b) ca cb t n1 n2, ← hs]
    have e2 : Lab c = (l ++ a :: b :: r).map (re (lab c)) := by
      conv => lhs; unfold Lab
      exact congrArg (fun z => List.map (re (lab c)) z) hs
    rw [e1, e2, List.map_append, List.map_append, List.map_cons, List.map_cons]
    exact (nf_pair (by rw [re_cancels]; exact hc)).symm

theorem cancels_valid {a b : Ins} (h : a.valid = true) : refCancels a b = cancels a b := by unfold refCancels cancels; rw [h]; simp

end Bk

/- Plain: code that is embedded in other code by a rising map: the faults are the same. -/
namespace Bk

/-- c' lies in c: its instruction j is the instruction f j of c, with the targets renumbered; whatever else stands in c has no target. -/
structure Emb (f : Nat → Nat) (c' c : Prg) : Prop where
  mono : ∀ a b, a < b → f a < f b
  len : ∀ j, j < c'.length ↔ f j < c.length
  op : ∀ j, j < c'.length → (c.getD (f j) default).op = (c'.getD j default).op
  valid : ∀ j, j < c'.length → (c.getD (f j) default).valid = (c'.getD j default).valid
  tgt : ∀ j, j < c'.length → (c.getD (f j) default).target.2 = (c'.getD j default).target.2
  hit : ∀ j, j < c'.length → (c'.getD j default).target.2 = true → ∃ t, t < c'.length ∧ (c'.getD j default).target.1 = (t : Nat) ∧ (c.getD (f j) default).target.1 = (f t : Nat)
  rest : ∀ i, i < c.length → (∀ j, f j ≠ i) → (c.getD i default).target.2 = false

theorem getD_mem {c : Prg} {i : Nat} (h : c.length ≤ i) : c.getD i default = default := by
  rw [List.getD_eq_getElem?_getD, List.getElem?_eq_none h]; rfl

namespace Emb
variable {f : Nat → Nat} {c' c : Prg} (E : Emb f c' c)
include E
theorem inj {a b : Nat} : f a = f b ↔ a = b := by
  constructor
  · intro h
    rcases Nat.lt_trichotomy a b with h1 | h1 | h1
    · have := E.mono _ _ h1; omega
    · exact h1
    · have := E.mono _ _ h1; omega
  · rintro rfl; rfl
theorem lt {a b : Nat} : f a < f b ↔ a < b := by
  constructor
  · intro h
    rcases Nat.lt_trichotomy a b with h1 | h1 | h1
    · exact h1
    · subst h1; omega
    · have := E.mono _ _ h1; omega
  · exact E.mono _ _

theorem partner_at {j : Nat} (hj : j < c'.length) : (partner c (f j)).2 = (partner c' j).2 ∧ ((partner c' j).2 = true → ∃ t, t < c'.length ∧ (partner c' j).1 = (t : Nat) ∧ (partner c (f j)).1 = (f t : Nat)) := by
  have hfj := (E.len j).1 hj
  have hop := E.op j hj
  have hv := E.valid j hj
  have ht := E.tgt j hj
  cases h2 : (c'.getD j default).target.2 with
  | false =>
    rw [h2] at ht
    have e1 : partner c' j = (0, false) := by
      unfold partner; rw [if_neg (by omega), Int.toNat_natCast, if_pos (.inl h2)]
    have e2 : partner c (f j) = (0, false) := by
      unfold partner; rw [if_neg (by omega), Int.toNat_natCast, if_pos (.inl ht)]
    rw [e1, e2]; simp
  | true =>
    rw [h2] at ht
    obtain ⟨t, htl, e1, e2⟩ := E.hit j hj h2
    have hft := (E.len t).1 htl
    have hvt := E.valid t htl
    have htt := E.tgt t htl
    have hopt := E.op t htl
    have p1 := partner_eq c' j hj (x := c'.getD j default) (y := c'.getD t default) (t := t) (ok := true) (back := (c'.getD t default).target.1) (ok2 := (c'.getD t default).target.2) rfl (Prod.ext e1 h2) (by rw [Int.toNat_natCast]) rfl rfl rfl
    have p2 := partner_eq c (f j) hfj (x := c.getD (f j) default) (y := c.getD (f t) default) (t := f t) (ok := true) (back := (c.getD (f t) default).target.1) (ok2 := (c.getD (f t) default).target.2) rfl (Prod.ext e2 ht) (by rw [Int.toNat_natCast]) rfl rfl rfl
    rw [hv, hvt, hop, hopt, htt] at p2
    have hlt : decide (((f j : Nat) : Int) < (f t : Nat)) = decide ((j : Int) < (t : Nat)) := by
      have := E.lt (a := j) (b := t)
      rw [decide_eq_decide]; omega
    rw [hlt] at p2
    have hback : ((c'.getD t default).target.2 = false ∨ (c.getD (f t) default).target.1 ≠ ((f j : Nat) : Int)) ↔ ((c'.getD t default).target.2 = false ∨ (c'.getD t default).target.1 ≠ (j : Int)) := by
      cases hb : (c'.getD t default).target.2 with
      | false => simp
      | true =>
        obtain ⟨s, hs, s1, s2⟩ := E.hit t htl hb
        rw [s1, s2]
        have := E.inj (a := s) (b := j)
        simp
        omega
    have n1 : ¬ (true = false ∨ ((t : Nat) : Int) < 0 ∨ (c'.length : Int) ≤ (t : Nat)) := by simp; omega
    have n2 : ¬ (true = false ∨ ((f t : Nat) : Int) < 0 ∨ (c.length : Int) ≤ (f t : Nat)) := by simp; omega
    rw [if_neg n1] at p1
    rw [if_neg n2] at p2
    rw [p1, p2]
    by_cases hval : (c'.getD j default).valid = false ∨ (c'.getD t default).valid = false
    · rw [if_pos hval, if_pos hval]; simp
    · rw [if_neg hval, if_neg hval]
      by_cases hb : (c'.getD t default).target.2 = false ∨ (c'.getD t default).target.1 ≠ (j : Int)
      · rw [if_pos hb, if_pos (hback.2 hb)]; simp
      · rw [if_neg hb, if_neg (fun h => hb (hback.1 h))]
        split
        · exact ⟨rfl, fun _ => ⟨t, htl, rfl, rfl⟩⟩
        · exact ⟨rfl, fun h => by cases h⟩

/-- The open procedures of c out of those of c'. -/
def up (f : Nat → Nat) (p : Int × Int) : Int × Int := ((f p.1.toNat : Nat), (f p.2.toNat : Nat))

omit E in
theorem drop_drop (l : List (Int × Int)) (i k : Int) (h : i ≤ k) : dropOpen k (dropOpen i l) = dropOpen k l := by
  induction l with
  | nil => rfl
  | cons x l ih =>
    obtain ⟨a, t⟩ := x
    simp only [dropOpen]
    split
    · rw [ih, if_pos (by omega)]
    · simp only [dropOpen]

omit E in
theorem open_nat (code : Prg) (i : Nat) : ∀ p ∈ openAt code i, 0 ≤ p.1 ∧ p.1 < i ∧ 0 ≤ p.2 ∧ p.2 < code.length := by
  have sub : ∀ (k : Int) (l : List (Int × Int)), ∀ p ∈ dropOpen k l, p ∈ l := by
    intro k l
    induction l with
    | nil => intro p hp; exact hp
    | cons x l ih =>
      obtain ⟨a, t⟩ := x
      intro p hp
      simp only [dropOpen] at hp
      split at hp
      · exact List.mem_cons_of_mem _ (ih p hp)
      · exact hp
  induction i with
  | zero => intro p hp; cases hp
  | succ i ih =>
    intro p hp
    rw [openAt_succ] at hp
    split at hp
    · rename_i h
      rcases List.mem_cons.1 hp with rfl | hp
      · have := partner_pos h.1; simp; omega
      · have := ih p (sub _ _ p hp); omega
    · have := ih p (sub _ _ p hp); omega

theorem drop_up (k : Nat) (l : List (Int × Int)) (hl : ∀ p ∈ l, 0 ≤ p.1 ∧ 0 ≤ p.2) : dropOpen (f k : Nat) (l.map (up f)) = (dropOpen k l).map (up f) := by
  induction l with
  | nil => rfl
  | cons x l ih =>
    obtain ⟨a, t⟩ := x
    have h := hl (a, t) (by simp)
    have e : (((f t.toNat : Nat) : Int) < (f k : Nat)) ↔ t < (k : Int) := by
      have := E.lt (a := t.toNat) (b := k); simp only at h; omega
    simp only [List.map_cons, up, dropOpen]
    by_cases hlt : t < (k : Int)
    · rw [if_pos hlt, if_pos (e.2 hlt)]
      exact ih fun p hp => hl p (by simp [hp])
    · rw [if_neg hlt, if_neg (fun h => hlt (e.1 h))]
      rfl

theorem open_up : ∀ (i j : Nat), i ≤ c.length → (∀ a, a < j → f a < i) → i ≤ f j → ∀ k : Int, (i : Int) ≤ k → dropOpen k (openAt c i) = dropOpen k ((openAt c' j).map (up f)) := by
  intro i
  induction i with
  | zero =>
    intro j _ h1 _ k _
    rcases Nat.eq_zero_or_pos j with rfl | h
    · rfl
    · have := h1 0 h; omega
  | succ i ih =>
    intro j hi h1 h2 k hk
    by_cases hin : ∃ a, f a = i
    · obtain ⟨a, rfl⟩ := hin
      have haj : a < j := by
        rcases Nat.lt_or_ge a j with h | h
        · exact h
        · rcases Nat.eq_or_lt_of_le h with e | e
          · subst e; omega
          · have := E.mono _ _ e; omega
      obtain rfl : j = a + 1 := by
        rcases Nat.lt_or_ge (a + 1) j with h | h
        · have := h1 (a + 1) h; have := E.mono a (a + 1) (by omega); omega
        · omega
      have hal : a < c'.length := (E.len a).2 (by omega)
      have hI := ih a (by omega) (fun b hb => E.mono _ _ hb) (Nat.le_refl _) ((f a : Nat) : Int) (Int.le_refl _)
      rw [E.drop_up a _ (fun p hp => by have := open_nat c' a p hp; omega)] at hI
      have hP := E.partner_at hal
      rw [openAt_succ, openAt_succ, hI, hP.1, E.op a hal]
      by_cases hc : (partner c' a).2 = true ∧ (c'.getD a default).op = 32
      · rw [if_pos hc, if_pos hc]
        obtain ⟨t, htl, e1, e2⟩ := hP.2 hc.1
        rw [e1, e2]
        simp [up]
      · rw [if_neg hc, if_neg hc]
    · have hno : ∀ a, f a ≠ i := fun a ha => hin ⟨a, ha⟩
      have htf := E.rest i (by omega) hno
      have hpf : (partner c i).2 = false := by
        unfold partner; rw [if_neg (by omega), Int.toNat_natCast, if_pos (.inl htf)]
      rw [openAt_succ, if_neg (by rw [hpf]; simp), drop_drop _ _ _ (by omega)]
      exact ih j (by omega) (fun a ha => by have := h1 a ha; have := hno a; omega) (by omega) k (by omega)

theorem drop_at {j : Nat} (hj : j < c'.length) : dropOpen (f j : Nat) (openAt c (f j)) = (dropOpen j (openAt c' j)).map (up f) := by
  have h := E.open_up (f j) j (Nat.le_of_lt ((E.len j).1 hj)) (fun b hb => E.mono _ _ hb) (Nat.le_refl _) ((f j : Nat) : Int) (Int.le_refl _)
  rw [E.drop_up j _ (fun p hp => by have := open_nat c' j p hp; omega)] at h
  exact h

theorem openAt_at {j : Nat} (hj : j < c'.length) : openAt c (f j + 1) = (openAt c' (j + 1)).map (up f) := by
  have hP := E.partner_at hj
  rw [openAt_succ, openAt_succ, E.drop_at hj, hP.1, E.op j hj]
  by_cases hc : (partner c' j).2 = true ∧ (c'.getD j default).op = 32
  · rw [if_pos hc, if_pos hc]
    obtain ⟨t, htl, e1, e2⟩ := hP.2 hc.1
    rw [e1, e2]
    simp [up]
  · rw [if_neg hc, if_neg hc]

theorem inside_at {j : Nat} (hj : j < c'.length) : insideAt c (f j) = insideAt c' j := by
  rw [insideAt_eq, insideAt_eq, E.drop_at hj]; simp

theorem region_at {j : Nat} (hj : j < c'.length) : regionAt c (f j) = if regionAt c' j < 0 then (-1 : Int) else ((f (regionAt c' j).toNat : Nat) : Int) := by
  rw [regionAt_eq, regionAt_eq, E.openAt_at hj]
  cases h : openAt c' (j + 1) with
  | nil => simp
  | cons p l =>
    have := open_nat c' (j + 1) p (by rw [h]; simp)
    obtain ⟨a, t⟩ := p
    simp only [List.map_cons, up]
    rw [if_neg (by simp only at this; omega)]

omit E in
theorem region_lo (c' : Prg) (j : Nat) : -1 ≤ regionAt c' j := by
  rw [regionAt_eq]
  cases h : openAt c' (j + 1) with
  | nil => simp
  | cons p l =>
    have := open_nat c' (j + 1) p (by rw [h]; simp)
    obtain ⟨a, t⟩ := p
    simp only at this ⊢; omega

theorem fault_at {j : Nat} (hj : j < c'.length) : fault c (f j) = fault c' j := by
  unfold fault
  simp only
  rw [E.valid j hj, E.tgt j hj, E.op j hj, (E.partner_at hj).1, E.inside_at hj]
  by_cases hv : (c'.getD j default).valid = false
  · rw [if_pos hv, if_pos hv]
  rw [if_neg hv, if_neg hv]
  by_cases ht : (c'.getD j default).target.2 = false
  · rw [if_pos ht, if_pos ht]
  rw [if_neg ht, if_neg ht]
  obtain ⟨t, htl, e1, e2⟩ := E.hit j hj (by simpa using ht)
  rw [e1, e2, Int.toNat_natCast, Int.toNat_natCast, (E.partner_at htl).1, E.op t htl]
  have hr : (regionAt c (f j) ≠ regionAt c (f t)) ↔ (regionAt c' j ≠ regionAt c' t) := by
    rw [E.region_at hj, E.region_at htl]
    have h1 := region_lo c' j; have h2 := region_lo c' t
    have := E.inj (a := (regionAt c' j).toNat) (b := (regionAt c' t).toNat)
    split <;> split <;> omega
  simp only [hr]

end Emb
end Bk

/- Plain: the optimized code is the reference's. -/
set_option linter.unusedVariables false
namespace Bk

theorem keepAt_split (c : Prg) (t : Nat) (hc : ctl (c.getD t default) = true) : ∀ n, t < n → ∃ R, keepAt c n = R ++ t :: keepAt c t ∧ ∀ k ∈ R, t < k := by
  intro n
  induction n with
  | zero => intro h; omega
  | succ n ih =>
    intro h
    rcases Nat.lt_or_ge t n with hlt | hge
    · obtain ⟨R, e, hR⟩ := ih hlt
      rw [keepAt, e]
      cases R with
      | nil =>
        simp only [List.nil_append]
        have : cancels (c.getD t default) (c.getD n default) = false := by
          cases hx : cancels (c.getD t default) (c.getD n default)
          · rfl
          · have := (cancels_ctl hx).1; unfold ctl at hc; rw [hc] at this; cases this
        rw [if_neg (by rw [this]; simp)]
        exact ⟨[n], rfl, by simpa using hlt⟩
      | cons k R =>
        simp only [List.cons_append]
        split
        · exact ⟨R, rfl, fun x hx => hR x (by simp [hx])⟩
        · exact ⟨n :: k :: R, rfl, fun x hx => (List.mem_cons.1 hx).elim (fun e => by rw [e]; exact hlt) (hR x)⟩
    · obtain rfl : t = n := by omega
      rw [keepAt]
      refine ⟨[], ?_, by simp⟩
      cases hk : keepAt c t with
      | nil => rfl
      | cons k rest =>
        have : cancels (c.getD k default) (c.getD t default) = false := by
          cases hx : cancels (c.getD k default) (c.getD t default)
          · rfl
          · have := (cancels_ctl hx).2; unfold ctl at hc; rw [hc] at this; cases this
        simp only
        rw [if_neg (by rw [this]; simp)]
        rfl

theorem cnt_snoc (l : Prg) (x : Ins) : cnt (l ++ [x]) (l.length + 1) = cnt l l.length + if ctl x = true then 1 else 0 := by
  rw [cnt_append, if_neg (by omega)]
  have : l.length + 1 - l.length = 1 := by omega
  rw [this]; simp [cnt]
theorem cnt_succ (c : Prg) (i : Nat) (h : i < c.length) : cnt c (i + 1) = cnt c i + if ctl (c.getD i default) = true then 1 else 0 := by
  have e : c = c.take (i + 1) ++ c.drop (i + 1) := (List.take_append_drop _ _).symm
  have e1 : c.take (i + 1) = c.take i ++ [c.getD i default] := by
    rw [List.take_add_one]; simp [List.getD_eq_getElem?_getD, h]
  have l1 : (c.take (i + 1)).length = i + 1 := by simp; omega
  have l0 : (c.take i).length = i := by simp; omega
  have a1 : cnt c (i + 1) = cnt (c.take (i + 1)) (i + 1) := by
    conv => lhs; rw [e]
    rw [cnt_append, if_pos (by omega)]
  have a0 : cnt c i = cnt (c.take i) i := by
    conv => lhs; rw [← List.take_append_drop i c]
    rw [cnt_append, if_pos (by omega)]
  have := cnt_snoc (c.take i) (c.getD i default)
  rw [l0] at this
  rw [a1, a0, e1]; exact this

/-- All control instructions are kept. -/
theorem keepAt_cnt (c : Prg) (i : Nat) (h : i ≤ c.length) : cnt ((keepAt c i).reverse.map fun k => c.getD k default) (keepAt c i).length = cnt c i := by
  induction i with
  | zero => simp [keepAt, cnt_zero]
  | succ i ih =>
    have ih := ih (by omega)
    rw [cnt_succ c i (by omega), ← ih, keepAt]
    cases hk : keepAt c i with
    | nil =>
      simp only [List.reverse_cons, List.reverse_nil, List.nil_append, List.map_cons, List.map_nil, List.length_cons, List.length_nil]
      simp [cnt]
    | cons k rest =>
      simp only
      have e2 : ((k :: rest).reverse.map fun k => c.getD k default) = (rest.reverse.map fun k => c.getD k default) ++ [c.getD k default] := by simp
      have l2 : (rest.reverse.map fun k => c.getD k default).length = rest.length := by simp
      have c2 := cnt_snoc (rest.reverse.map fun k => c.getD k default) (c.getD k default)
      rw [l2, ← e2] at c2
      split
      · rename_i hc
        obtain ⟨h1, h2⟩ := cancels_ctl hc
        rw [List.length_cons, c2]
        unfold ctl; rw [h1, h2]; simp
      · have e3 : ((i :: k :: rest).reverse.map fun k => c.getD k default) = ((k :: rest).reverse.map fun k => c.getD k default) ++ [c.getD i default] := by simp
        have l3 : ((k :: rest).reverse.map fun k => c.getD k default).length = (k :: rest).length := by simp
        have c3 := cnt_snoc ((k :: rest).reverse.map fun k => c.getD k default) (c.getD i default)
        rw [l3, ← e3] at c3
        exact c3

theorem idxA_split (A B : List Nat) (t : Nat) (hB : t ∉ B) : ∀ j, A.length < j → j ≤ (A ++ t :: B).length → idxA (A ++ t :: B) j t = A.length := by
  intro j
  induction j with
  | zero => intro h; omega
  | succ j ih =>
    intro h1 h2
    rw [idxA]
    rcases Nat.lt_or_ge A.length j with hlt | hge
    · rw [if_neg, ih hlt (by omega)]
      intro e
      obtain ⟨s, rfl⟩ : ∃ s, j = A.length + (s + 1) := ⟨j - A.length - 1, by omega⟩
      rw [List.getD_eq_getElem?_getD, List.getElem?_append_right (by omega)] at e
      have e1 : A.length + (s + 1) - A.length = s + 1 := by omega
      rw [e1] at e
      simp only [List.getElem?_cons_succ] at e
      have hs : s < B.length := by simp at h2; omega
      rw [List.getElem?_eq_getElem hs] at e
      exact hB (by rw [e]; exact List.getElem_mem hs)
    · obtain rfl : j = A.length := by omega
      rw [if_pos]
      rw [List.getD_eq_getElem?_getD, List.getElem?_append_right (by omega)]; simp

/-- The new index of a kept control instruction. -/
theorem idx_ctl (c : Prg) (t : Nat) (ht : t < c.length) (hc : ctl (c.getD t default) = true) :
    idxA (kept c) (kept c).length t = ((keepAt c t).length : Int) ∧ (keepAt c t).length < (nf c).length ∧ (nf c).getD (keepAt c t).length default = c.getD t default ∧ cnt (nf c) (keepAt c t).length = cnt c t := by
  obtain ⟨R, e, hR⟩ := keepAt_split c t hc c.length ht
  have ek : kept c = (keepAt c t).reverse ++ t :: R.reverse := by unfold kept; rw [e]; simp
  have hl : (keepAt c t).reverse.length = (keepAt c t).length := by simp
  have hn : nf c = ((keepAt c t).reverse.map fun k => c.getD k default) ++ c.getD t default :: (R.reverse.map fun k => c.getD k default) := by
    rw [← kept_nf, ek]; simp
  refine ⟨?_, by rw [hn]; simp, ?_, ?_⟩
  · rw [ek]
    have := idxA_split (keepAt c t).reverse R.reverse t (fun h => by have := hR t (List.mem_reverse.1 h); omega) _ (by simp : (keepAt c t).reverse.length < ((keepAt c t).reverse ++ t :: R.reverse).length) (Nat.le_refl _)
    rw [this, hl]
  · rw [hn, List.getD_eq_getElem?_getD, List.getElem?_append_right (by simp)]; simp
  · rw [hn, cnt_append, if_pos (by simp)]
    exact keepAt_cnt c t (by omega)

theorem optCode_eq (c : Prg) : optCode c = (nf c).map (re fun t => idxA (kept c) (kept c).length t.toNat) := by
  unfold optCode
  rw [← kept_nf, List.map_map]
  refine List.map_congr_left fun k hk => ?_
  rw [Function.comp_apply]
  rfl

theorem nf_mem (l : Prg) : ∀ x ∈ nf l, x ∈ l := by
  intro x hx
  rw [← kept_nf] at hx
  obtain ⟨k, hk, rfl⟩ := List.mem_map.1 hx
  have hlt := kept_lt l k hk
  simp [List.getD_eq_getElem?_getD, hlt]

theorem opt_good {c : Prg} (hg : Good c) : Good (optCode c) ∧ Lab (optCode c) = nf (Lab c) := by
  have hr := optCode_eq c
  refine ⟨fun y hy ht => ?_, ?_⟩
  · rw [hr] at hy
    obtain ⟨x, hx, rfl⟩ := List.mem_map.1 hy
    rw [re_tgt] at ht
    obtain ⟨t, e, h1, h2⟩ := hg x (nf_mem c x hx) ht
    obtain ⟨i1, i2, i3, i4⟩ := idx_ctl c t h1 h2
    refine ⟨(keepAt c t).length, by rw [re_target _ ht, e, Int.toNat_natCast, i1], by rw [hr]; simpa using i2, ?_⟩
    rw [hr, getD_re _ _ _ i2, re_ctl, i3]; exact h2
  · have : Lab (optCode c) = (nf c).map (re (lab c)) := by
      refine Lab_eq hr fun x hx ht => ?_
      obtain ⟨t, e, h1, h2⟩ := hg x (nf_mem c x hx) ht
      obtain ⟨i1, i2, i3, i4⟩ := idx_ctl c t h1 h2
      rw [e]
      simp only [Int.toNat_natCast, i1, lab]
      rw [hr, cnt_re, i4]
    rw [this, Lab, nf_re]

/-- Instructions that are no control instructions are valid. -/
def Plain (c : Prg) : Prop := ∀ x ∈ c, ctl x = false → x.valid = true
theorem plain_re {l : Prg} {f : Int → Int} (h : Plain l) : Plain (l.map (re f)) := by
  intro y hy hc
  obtain ⟨x, hx, rfl⟩ := List.mem_map.1 hy
  rw [re_ctl] at hc
  have : re f x = x := by
    unfold re; rw [if_neg]
    intro ht; have := tgt_ctl ht; unfold ctl at hc; rw [hc] at this; cases this
  rw [this]; exact h x hx hc
theorem plain_cancels {c : Prg} (h : Plain c) {k : Nat} (hk : k < c.length) (y : Ins) : refCancels (c.getD k default) y = cancels (c.getD k default) y := by
  cases hc : ctl (c.getD k default) with
  | true => unfold refCancels cancels; unfold ctl at hc; rw [hc]; simp
  | false =>
    refine cancels_valid (h _ ?_ hc)
    simp [List.getD_eq_getElem?_getD, hk]
theorem refLoop_spec (c : Prg) (j : Nat) (hg : Good c) (hp : Plain c) (hn : ∀ q, j ≤ q → q + 1 < c.length → cancels (c.getD q default) (c.getD (q + 1) default) = false) :
    Good (refLoop c j) ∧ nf (Lab (refLoop c j)) = nf (Lab c) ∧ NoPair (refLoop c j) := by
  match j with
  | 0 => rw [refLoop_zero]; exact ⟨hg, rfl, fun k hk => hn k (Nat.zero_le _) hk⟩
  | k + 1 =>
    by_cases h : k + 1 < c.length ∧ refCancels (c.getD k default) (c.getD (k + 1) default) = true
    · rw [refLoop_rem c k h]
      have hc : cancels (c.getD k default) (c.getD (k + 1) default) = true := by rw [← plain_cancels hp (by omega)]; exact h.2
      obtain ⟨g1, g2⟩ := remove_good hg h.1 hc
      have hp1 : Plain (removeAt c k) := by
        rw [removeAt_eq c k (by omega)]
        exact plain_re fun x hx => hp x (by
          rcases List.mem_append.1 hx with h | h
          · exact List.mem_of_mem_take h
          · exact List.mem_of_mem_drop h)
      have ih := refLoop_spec (removeAt c k) (removeAt c k).length g1 hp1 (fun q h1 h2 => by omega)
      exact ⟨ih.1, ih.2.1.trans g2, ih.2.2⟩
    · rw [refLoop_skip c k h]
      refine refLoop_spec c k hg hp fun q h1 h2 => ?_
      rcases Nat.eq_or_lt_of_le h1 with e | e
      · subst e
        rw [← plain_cancels hp (by omega)]
        cases hx : refCancels (c.getD k default) (c.getD (k + 1) default)
        · rfl
        · exact absurd ⟨h2, hx⟩ h
      · exact hn q e h2
termination_by (c.length, j)
decreasing_by
  · apply Prod.Lex.left; rw [removeAt_length c k h.1]; omega
  · apply Prod.Lex.right; omega

theorem noPair_re {l : Prg} (f : Int → Int) (h : NoPair l) : NoPair (l.map (re f)) := by
  intro k hk
  have hk' : k + 1 < l.length := by simpa using hk
  rw [getD_re _ _ _ (by omega), getD_re _ _ _ hk', re_cancels]
  exact h k hk'

/-- THE OPTIMIZED CODE IS THE REFERENCE's. -/
theorem opt_ref {c : Prg} (hg : Good c) (hp : Plain c) : refOpt c = optCode c := by
  obtain ⟨h1, h2, h3⟩ := refLoop_spec c (c.length - 1) hg hp (fun q h1 h2 => by omega)
  obtain ⟨o1, o2⟩ := opt_good hg
  refine lab_inj h1 o1 ?_
  rw [o2, ← h2]
  exact (nf_noPair (noPair_re _ h3)).symm

/-- A valid image's code is good. -/
theorem valid_good {im : Img} (h : im.check.2 = 0) : Good im.code ∧ Plain im.code := by
  obtain ⟨hs, hf⟩ := check_fault h
  have at_ : ∀ x ∈ im.code, ∃ k, k < im.code.length ∧ im.code.getD k default = x := by
    intro x hx
    obtain ⟨k, hk, e⟩ := List.getElem_of_mem hx
    exact ⟨k, hk, by simp [List.getD_eq_getElem?_getD, hk, e]⟩
  refine ⟨fun x hx ht => ?_, fun x hx _ => ?_⟩
  · obtain ⟨k, hk, rfl⟩ := at_ x hx
    have h0 := hf k hk
    unfold fault at h0
    simp only at h0
    split at h0
    · cases h0
    split at h0
    · rename_i h2; unfold tgt at ht; rw [ht] at h2; cases h2
    split at h0
    · split at h0
      · cases h0
      · rename_i h3
        have h4 : (partner im.code (im.code.getD k default).target.1).2 = true := by
          cases hp : (partner im.code (im.code.getD k default).target.1).2
          · exact absurd (Or.inl hp) h3
          · rfl
        have h5 : (im.code.getD (im.code.getD k default).target.1.toNat default).op = 32 := by
          rcases Decidable.em ((im.code.getD (im.code.getD k default).target.1.toNat default).op = 32) with e | e
          · exact e
          · exact absurd (Or.inr e) h3
        obtain ⟨a, b, _⟩ := partner_inv h4
        refine ⟨_, (Int.toNat_of_nonneg a).symm, by omega, ?_⟩
        unfold ctl ctlB; rw [h5]; decide
    · split at h0
      · cases h0
      · rename_i h3
        have h4 : (partner im.code k).2 = true := by simpa using h3
        obtain ⟨_, _, a, b, c, _, _, d, _⟩ := partner_inv h4
        rw [Int.toNat_natCast] at c
        have e : (im.code.getD k default).target.1 = (partner im.code k).1 := by rw [c]
        rw [e]
        refine ⟨_, (Int.toNat_of_nonneg a).symm, by omega, ?_⟩
        exact tgt_ctl (by unfold tgt; rw [d])
  · obtain ⟨k, hk, rfl⟩ := at_ x hx
    exact (fault_zero (hf k hk)).1
end Bk

/- Plain: the optimized image is valid; its instructions do not cancel; to optimize it again changes nothing. -/
set_option linter.unusedVariables false
namespace Bk

theorem fault_ok {code : Prg} {k : Nat} (h : fault code k = 0) : (code.getD k default).valid = true := (fault_zero h).1

/-- An image is valid if its sizes are and no instruction is at fault. -/
theorem check_of {im : Img} (hs : im.sized = true) (hf : ∀ k, k < im.code.length → fault im.code k = 0) : im.check.2 = 0 := by
  unfold Img.check
  rw [if_pos hs, checkFrom_all im.code _ hf]

theorem keepAt_sorted (c : Prg) (i : Nat) : (keepAt c i).Pairwise (· > ·) := by
  induction i with
  | zero => simp [keepAt]
  | succ i ih =>
    rw [keepAt]
    have hlt := keepAt_lt c i
    cases hk : keepAt c i with
    | nil => simp
    | cons k rest =>
      rw [hk] at ih hlt
      simp only
      split
      · exact (List.pairwise_cons.1 ih).2
      · exact List.pairwise_cons.2 ⟨fun x hx => hlt x hx, ih⟩

/-- The indices of the kept instructions, as a map that rises everywhere. -/
def keptF (c : Prg) (j : Nat) : Nat := if j < (kept c).length then (kept c).getD j 0 else c.length + (j - (kept c).length)
theorem kept_sorted (c : Prg) : ∀ a b, a < b → b < (kept c).length → (kept c).getD a 0 < (kept c).getD b 0 := by
  intro a b hab hb
  have h : (kept c).Pairwise (· < ·) := by
    unfold kept
    rw [List.pairwise_reverse]
    exact keepAt_sorted c _
  have := List.pairwise_iff_getElem.1 h a b (by omega) hb hab
  simpa [List.getD_eq_getElem?_getD, show a < (kept c).length by omega, hb] using this
theorem kept_at (c : Prg) (j : Nat) (h : j < (kept c).length) : (kept c).getD j 0 < c.length := by
  have := kept_lt c ((kept c)[j]) (List.getElem_mem h)
  simpa [List.getD_eq_getElem?_getD, h] using this
theorem keptF_mono (c : Prg) : ∀ a b, a < b → keptF c a < keptF c b := by
  intro a b hab
  unfold keptF
  by_cases hb : b < (kept c).length
  · rw [if_pos (by omega), if_pos hb]; exact kept_sorted c a b hab hb
  · rw [if_neg hb]
    by_cases ha : a < (kept c).length
    · rw [if_pos ha]; have := kept_at c a ha; omega
    · rw [if_neg ha]; omega

theorem optCode_get (c : Prg) (j : Nat) (h : j < (kept c).length) : (optCode c).getD j default = relink c (kept c) ((kept c).getD j 0) := by
  simp [optCode, List.getD_eq_getElem?_getD, h]
theorem relink_re (c : Prg) (kl : List Nat) (k : Nat) : relink c kl k = re (fun t => idxA kl kl.length t.toNat) (c.getD k default) := rfl
theorem mem_getD {c : Prg} {k : Nat} (h : k < c.length) : c.getD k default ∈ c := by
  rw [List.getD_eq_getElem?_getD, List.getElem?_eq_getElem h]; exact List.getElem_mem h
theorem relink_op (c : Prg) (kl : List Nat) (k : Nat) : (relink c kl k).op = (c.getD k default).op := by unfold relink; split <;> rfl

/-- Every control instruction is kept. -/
theorem kept_ctl {c : Prg} {t : Nat} (ht : t < c.length) (hc : ctl (c.getD t default) = true) : (keepAt c t).length < (kept c).length ∧ (kept c).getD (keepAt c t).length 0 = t := by
  obtain ⟨R, e, hR⟩ := keepAt_split c t hc c.length ht
  have ek : kept c = (keepAt c t).reverse ++ t :: R.reverse := by unfold kept; rw [e]; simp
  rw [ek]
  refine ⟨by simp, ?_⟩
  rw [List.getD_eq_getElem?_getD, List.getElem?_append_right (by simp)]; simp

theorem idx_valid {op a b c d t : Int} (h : validB op a b c d = true) (hop : 0 ≤ op) (ht : tgt ⟨op, a, b, c, d⟩ = true) (h0 : 0 ≤ t) (h1 : t < 65536) : validB op (retA op a t) (retB op b t) c d = true := by
  rw [tgt_ops, decide_eq_true_eq] at ht
  simp only at ht
  have hidx : idxB t = true := by unfold idxB; rw [decide_eq_true_eq]; omega
  rcases ht with (rfl | rfl | rfl | rfl | rfl | rfl) | rfl | rfl | rfl | rfl
  all_goals
    simp [validB, zerosB, shapeB, arity, retA, retB, hidx] at h ⊢
    try (obtain ⟨h1, h2⟩ := h; simp_all)
theorem ret_valid {x : Ins} (h : x.valid = true) (hop : 0 ≤ x.op) (ht : tgt x = true) {t : Int} (h0 : 0 ≤ t) (h1 : t < 65536) : (x.retarget t).valid = true := by
  obtain ⟨op, a, b, c, d⟩ := x
  exact idx_valid h hop ht h0 h1

/-- The optimized code lies in the code. -/
theorem opt_emb {im : Img} (h : im.check.2 = 0) (hw : CodeWf im.code) : Emb (keptF im.code) (optCode im.code) im.code := by
  obtain ⟨hs, hf⟩ := check_fault h
  obtain ⟨hg, hp⟩ := valid_good h
  have hlen : im.code.length ≤ 65536 := by
    unfold Img.sized at hs; simp at hs; omega
  have hkl := kept_length im.code
  have hF : ∀ j, j < (optCode im.code).length → keptF im.code j = (kept im.code).getD j 0 ∧ j < (kept im.code).length := by
    intro j hj
    rw [optCode_length] at hj
    exact ⟨by unfold keptF; rw [if_pos hj], hj⟩
  have hv : ∀ j, j < (optCode im.code).length → (im.code.getD (keptF im.code j) default).valid = true := by
    intro j hj
    obtain ⟨e, hj'⟩ := hF j hj
    rw [e]; exact fault_ok (hf _ (kept_at _ j hj'))
  have hit : ∀ j, j < (optCode im.code).length → tgt (im.code.getD (keptF im.code j) default) = true → ∃ t, t < (optCode im.code).length ∧ ((optCode im.code).getD j default).target.1 = (t : Nat) ∧ (im.code.getD (keptF im.code j) default).target.1 = (keptF im.code t : Nat) ∧ (optCode im.code).getD j default = (im.code.getD (keptF im.code j) default).retarget (t : Nat) := by
    intro j hj ht
    obtain ⟨e, hj'⟩ := hF j hj
    rw [e] at ht ⊢
    have hk := kept_at im.code j hj'
    obtain ⟨t, ht1, ht2, ht3⟩ := hg (im.code.getD ((kept im.code).getD j 0) default) (mem_getD hk) ht
    obtain ⟨q1, q2⟩ := kept_ctl ht2 ht3
    obtain ⟨i1, _⟩ := idx_ctl im.code t ht2 ht3
    have er : (optCode im.code).getD j default = (im.code.getD ((kept im.code).getD j 0) default).retarget ((keepAt im.code t).length : Nat) := by
      rw [optCode_get _ j hj']
      rw [relink_re, re, if_pos ht, ht1, Int.toNat_natCast, i1]
    refine ⟨(keepAt im.code t).length, by rw [optCode_length]; exact q1, ?_, ?_, er⟩
    · rw [er, ret_target ht]
    · rw [ht1]; unfold keptF; rw [if_pos q1, q2]
  have htg : ∀ j, j < (optCode im.code).length → (im.code.getD (keptF im.code j) default).target.2 = ((optCode im.code).getD j default).target.2 := by
    intro j hj
    obtain ⟨e, hj'⟩ := hF j hj
    have := tgt_ops (im.code.getD (keptF im.code j) default)
    have h2 := tgt_ops ((optCode im.code).getD j default)
    rw [optCode_get _ j hj', relink_op, ← e] at h2
    unfold tgt at this h2
    rw [this]; rw [optCode_get _ j hj', ← e]; exact h2.symm
  refine ⟨keptF_mono im.code, ?_, ?_, ?_, htg, ?_, ?_⟩
  · intro j
    rw [optCode_length]
    unfold keptF
    by_cases hj : j < (kept im.code).length
    · rw [if_pos hj]; have := kept_at im.code j hj; omega
    · rw [if_neg hj]; omega
  · intro j hj
    obtain ⟨e, hj'⟩ := hF j hj
    rw [optCode_get _ j hj', relink_op, e]
  · intro j hj
    obtain ⟨e, hj'⟩ := hF j hj
    rw [hv j hj]
    by_cases ht : tgt (im.code.getD (keptF im.code j) default) = true
    · obtain ⟨t, t1, _, _, t4⟩ := hit j hj ht
      rw [t4]
      rw [optCode_length] at t1
      exact (ret_valid (hv j hj) ((hw _ (by rw [e]; exact kept_at _ j hj')).op0) ht (by omega) (by omega)).symm
    · have hvj := hv j hj
      rw [e] at hvj ht
      rw [optCode_get _ j hj']
      rw [relink_re, re, if_neg ht]; exact hvj.symm
  · intro j hj ht
    obtain ⟨t, t1, t2, t3, _⟩ := hit j hj (by unfold tgt; rw [htg j hj]; exact ht)
    exact ⟨t, t1, t2, t3⟩
  · intro i hi hno
    cases hti : (im.code.getD i default).target.2 with
    | false => rfl
    | true =>
      have hc : ctl (im.code.getD i default) = true := tgt_ctl hti
      obtain ⟨q1, q2⟩ := kept_ctl hi hc
      exact absurd (by unfold keptF; rw [if_pos q1, q2]) (hno (keepAt im.code i).length)

/-- THE OPTIMIZED IMAGE IS VALID. -/
theorem opt_valid {im : Img} (h : im.check.2 = 0) (hw : CodeWf im.code) : ({ im with code := optCode im.code } : Img).check.2 = 0 := by
  have E := opt_emb h hw
  obtain ⟨hs, hf⟩ := check_fault h
  refine check_of ?_ fun k hk => ?_
  · have := optCode_length im.code
    have := kept_length im.code
    unfold Img.sized at hs ⊢
    simp at hs ⊢; omega
  · rw [← E.fault_at hk]; exact hf _ ((E.len k).1 hk)
theorem opt_noPair {c : Prg} : NoPair (optCode c) := by
  rw [optCode_eq]; exact noPair_re _ (nf_noPairs c)

/-- Code without pairs is kept whole. -/
theorem keepAt_all {c : Prg} (h : NoPair c) : ∀ i, i ≤ c.length → keepAt c i = (List.range i).reverse := by
  intro i
  induction i with
  | zero => intro _; rfl
  | succ i ih =>
    intro hi
    rw [keepAt, ih (by omega), List.range_succ, List.reverse_append]
    cases i with
    | zero => rfl
    | succ i =>
      rw [List.range_succ, List.reverse_append]
      have := h i (by omega)
      show (if cancels (c.getD i default) (c.getD (i + 1) default) = true then _ else _) = _
      rw [if_neg (by rw [this]; simp)]
      simp
theorem opt_again {im : Img} (h : im.check.2 = 0) (hn : NoPair im.code) : optCode im.code = im.code := by
  obtain ⟨hg, hp⟩ := valid_good h
  obtain ⟨o1, o2⟩ := opt_good hg
  refine lab_inj o1 hg ?_
  rw [o2]; exact nf_noPair (noPair_re _ hn)
end Bk
