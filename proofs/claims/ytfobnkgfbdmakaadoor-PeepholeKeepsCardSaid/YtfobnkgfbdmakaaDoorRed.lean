/- Plain: pairs that cancel: a word has one reduced form; the optimizer's and the reference's code are that form. -/
import Derived.Test.YtfobnkgfbdmakaaDoorPeepS
set_option linter.unusedVariables false
namespace Bk

theorem rinv_cases (op : Int) : (op = 1 ∨ op = 2 ∨ op = 4 ∨ op = 5 ∨ op = 12 ∨ op = 13 ∨ op = 17 ∨ op = 18 ∨ op = 19 ∨ op = 20 ∨ op = 28 ∨ op = 29) ∨ rinv op = op := by
  by_cases hs : op = 1 ∨ op = 2 ∨ op = 4 ∨ op = 5 ∨ op = 12 ∨ op = 13 ∨ op = 17 ∨ op = 18 ∨ op = 19 ∨ op = 20 ∨ op = 28 ∨ op = 29
  · exact .inl hs
  · refine .inr ?_
    unfold rinv
    rw [if_neg (by omega), if_neg (by omega), if_neg (by omega), if_neg (by omega), if_neg (by omega), if_neg (by omega), if_neg (by omega), if_neg (by omega), if_neg (by omega), if_neg (by omega), if_neg (by omega), if_neg (by omega)]

theorem rinv_spec (op a b c d : Int) (h : ctlB op = false) : validB (rinv op) a b c d = validB op a b c d ∧ ctlB (rinv op) = false ∧ rinv (rinv op) = op := by
  rcases rinv_cases op with hs | hs
  · rcases hs with rfl | rfl | rfl | rfl | rfl | rfl | rfl | rfl | rfl | rfl | rfl | rfl <;> exact ⟨rfl, rfl, rfl⟩
  · rw [hs]; exact ⟨rfl, h, hs⟩

theorem cancels_iff {a b : Ins} : cancels a b = true ↔ a.valid = true ∧ ctlB a.op = false ∧ b = { a with op := rinv a.op } := by
  unfold cancels
  simp only [Bool.and_eq_true, Bool.not_eq_true', decide_eq_true_eq]
  constructor
  · rintro ⟨h1, h2, h3⟩; exact ⟨h1, h2, h3.symm⟩
  · rintro ⟨h1, h2, h3⟩; exact ⟨h1, h2, h3.symm⟩
theorem cancels_symm {a b : Ins} (h : cancels a b = true) : cancels b a = true := by
  rw [cancels_iff] at h ⊢
  obtain ⟨h1, h2, rfl⟩ := h
  obtain ⟨r1, r2, r3⟩ := rinv_spec a.op a.a a.b a.c a.d h2
  refine ⟨?_, r2, ?_⟩
  · show validB (rinv a.op) a.a a.b a.c a.d = true
    rw [r1]; exact h1
  · simp only [r3]
theorem cancels_right {a b c : Ins} (h : cancels a b = true) (h' : cancels a c = true) : b = c := by
  rw [cancels_iff] at h h'; rw [h.2.2, h'.2.2]
theorem cancels_twice {a b c : Ins} (h : cancels a b = true) (h' : cancels b c = true) : a = c := cancels_right (cancels_symm h) h'
theorem cancels_ctl {a b : Ins} (h : cancels a b = true) : ctlB a.op = false ∧ ctlB b.op = false :=
  ⟨(cancels_iff.1 h).2.1, (cancels_iff.1 (cancels_symm h)).2.1⟩

/-- One instruction more; the last one stands first. -/
def push (s : List Ins) (x : Ins) : List Ins := match s with
  | [] => [x]
  | p :: s' => if cancels p x then s' else x :: p :: s'
def Reduced : List Ins → Prop
  | [] => True
  | x :: s => (∀ p ∈ s.head?, cancels p x = false) ∧ Reduced s
theorem push_nil (x : Ins) : push [] x = [x] := rfl
theorem push_cons (p x : Ins) (s : List Ins) : push (p :: s) x = if cancels p x then s else x :: p :: s := rfl
theorem push_reduced {s : List Ins} (h : Reduced s) (x : Ins) : Reduced (push s x) := by
  cases s with
  | nil => exact ⟨by simp, trivial⟩
  | cons p s =>
    rw [push_cons]
    split
    · exact h.2
    · rename_i hn
      exact ⟨by simpa using hn, h⟩
def red (s : List Ins) (l : List Ins) : List Ins := l.foldl push s
theorem red_append (s l r : List Ins) : red s (l ++ r) = red (red s l) r := List.foldl_append
theorem red_cons (s : List Ins) (x : Ins) (l : List Ins) : red s (x :: l) = red (push s x) l := rfl
theorem red_nil (s : List Ins) : red s [] = s := rfl
theorem red_reduced {s : List Ins} (h : Reduced s) (l : List Ins) : Reduced (red s l) := by
  induction l generalizing s with
  | nil => exact h
  | cons x l ih => exact ih (push_reduced h x)

theorem push_pair {s : List Ins} (h : Reduced s) {a b : Ins} (hc : cancels a b = true) : push (push s a) b = s := by
  cases s with
  | nil => rw [push_nil, push_cons, if_pos hc]
  | cons p s =>
    rw [push_cons]
    by_cases hp : cancels p a = true
    · rw [if_pos hp]
      have e : p = b := cancels_twice hp hc
      subst e
      cases s with
      | nil => rfl
      | cons q s =>
        rw [push_cons, if_neg (by have := h.1 q (by simp); simp [this])]
    · rw [if_neg hp, push_cons, if_pos hc]
theorem red_pair {l r : List Ins} {a b : Ins} (hc : cancels a b = true) : red [] (l ++ a :: b :: r) = red [] (l ++ r) := by
  rw [red_append, red_append, red_cons, red_cons, push_pair (red_reduced (by trivial) l) hc]

/-- A word that bears no pair is its own reduced form. -/
theorem red_rev {l s : List Ins} (h : Reduced (l.reverse ++ s)) : red s l = l.reverse ++ s := by
  induction l generalizing s with
  | nil => rfl
  | cons x l ih =>
    have e : (x :: l).reverse ++ s = l.reverse ++ (x :: s) := by simp
    rw [e] at h ⊢
    rw [red_cons]
    have hp : push s x = x :: s := by
      have h2 : Reduced (x :: s) := by
        clear ih e
        generalize l.reverse = r at h
        induction r with
        | nil => exact h
        | cons y r ih => exact ih h.2
      cases s with
      | nil => rfl
      | cons p s => rw [push_cons, if_neg (by have := h2.1 p (by simp); simp [this])]
    rw [hp]
    exact ih h
theorem red_self {s : List Ins} (h : Reduced s) : red [] s.reverse = s := by
  have := red_rev (l := s.reverse) (s := []) (by simpa using h)
  simpa using this

/-- The reduced form, the first one first. -/
def nf (l : List Ins) : List Ins := (red [] l).reverse
theorem nf_pair {l r : List Ins} {a b : Ins} (hc : cancels a b = true) : nf (l ++ a :: b :: r) = nf (l ++ r) := by unfold nf; rw [red_pair hc]
theorem nf_nf (l : List Ins) : nf (nf l) = nf l := by unfold nf; rw [red_self (red_reduced (by trivial) l)]
theorem nf_of {l : List Ins} (h : Reduced l.reverse) : nf l = l := by
  unfold nf; have := red_self h; rw [List.reverse_reverse] at this; rw [this, List.reverse_reverse]

theorem getD_left (l r : List Ins) {k : Nat} (h : k < l.length) : (l ++ r).getD k default = l.getD k default := by
  rw [List.getD_eq_getElem?_getD, List.getD_eq_getElem?_getD, List.getElem?_append_left h]

/-- Adjacent instructions of a list do not cancel. -/
def NoPair (l : List Ins) : Prop := ∀ k, k + 1 < l.length → cancels (l.getD k default) (l.getD (k + 1) default) = false
theorem reduced_of_noPair : ∀ (l s : List Ins), Reduced s → (∀ p ∈ s.head?, ∀ x ∈ l.head?, cancels p x = false) → NoPair l → Reduced (l.reverse ++ s)
  | [], s, hs, _, _ => hs
  | x :: l, s, hs, h1, h2 => by
    have e : (x :: l).reverse ++ s = l.reverse ++ (x :: s) := by simp
    rw [e]
    refine reduced_of_noPair l (x :: s) ⟨fun p hp => h1 p hp x (by simp), hs⟩ ?_ ?_
    · intro p hp y hy
      simp at hp; subst hp
      cases l with
      | nil => simp at hy
      | cons z l =>
        simp at hy; subst hy
        have := h2 0 (by simp)
        simpa using this
    · intro k hk
      have := h2 (k + 1) (by simp; omega)
      simpa using this
theorem nf_noPair {l : List Ins} (h : NoPair l) : nf l = l := nf_of (by have := reduced_of_noPair l [] (by trivial) (by simp) h; simpa using this)
theorem noPair_of_reduced : ∀ (s : List Ins), Reduced s → NoPair s.reverse
  | [], _ => fun k hk => by simp at hk
  | x :: s, h => by
    have ih := noPair_of_reduced s h.2
    intro k hk
    simp only [List.reverse_cons, List.length_append, List.length_reverse, List.length_cons, List.length_nil] at hk
    by_cases hlt : k + 1 < s.length
    · have := ih k (by simpa using hlt)
      simp only [List.reverse_cons]
      rw [getD_left _ _ (by simp; omega), getD_left _ _ (by simp; omega)]
      exact this
    · obtain ⟨p, hp⟩ : ∃ p, s.head? = some p := by
        cases s with
        | nil => simp at hk
        | cons p s => exact ⟨p, rfl⟩
      have h1 := h.1 p (by rw [hp]; rfl)
      have hk' : k = s.length - 1 := by omega
      have e1 : (s.reverse ++ [x]).getD (k + 1) default = x := by
        rw [List.getD_eq_getElem?_getD, List.getElem?_append_right (by simp; omega)]
        have : k + 1 - s.reverse.length = 0 := by simp; omega
        rw [this]; rfl
      have e2 : (s.reverse ++ [x]).getD k default = p := by
        rw [List.getD_eq_getElem?_getD, List.getElem?_append_left (by simp; omega), List.getElem?_reverse (by omega)]
        have : s.length - 1 - k = 0 := by omega
        rw [this]
        cases s with
        | nil => simp at hp
        | cons q s => simp at hp; subst hp; rfl
      simp only [List.reverse_cons]
      rw [e1, e2]; exact h1
theorem nf_noPairs (l : List Ins) : NoPair (nf l) := noPair_of_reduced _ (red_reduced (by trivial) l)

theorem keepAt_red (code : Prg) (i : Nat) (h : i ≤ code.length) : (keepAt code i).map (fun k => code.getD k default) = red [] (code.take i) := by
  induction i with
  | zero => simp [keepAt, red]
  | succ i ih =>
    have hi : i < code.length := by omega
    have e : code.take (i + 1) = code.take i ++ [code.getD i default] := by
      rw [List.take_add_one]; simp [List.getD_eq_getElem?_getD, hi]
    have ih := ih (by omega)
    rw [e, red_append, ← ih, keepAt, red_cons, red_nil]
    cases keepAt code i with
    | nil => rfl
    | cons k rest =>
      simp only [List.map_cons, push_cons]
      split <;> rfl
theorem kept_nf (code : Prg) : (kept code).map (fun k => code.getD k default) = nf code := by
  unfold kept nf
  rw [List.map_reverse, keepAt_red code _ (Nat.le_refl _), List.take_length]

end Bk
