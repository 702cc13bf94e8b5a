/- Several texts in one: BpA BpB BpC BpD. -/
import Derived.Test.YteenmpjjaheggaaDoorDbX
import Derived.Test.YteenmpjjaheggaaDoorCpX
import Derived.Test.YteenmpjjaheggaaDoorZHeld
import Derived.Laws.EntriesVeiled
set_option linter.unusedVariables false
set_option linter.unusedSimpArgs false
/- Plain: the searches of layer 34 and of its reference, no program in sight. -/
set_option maxRecDepth 100000
set_option linter.unusedVariables false
namespace Bk
/-- A predicate of the laws of layer 34. -/
structure Tst where
  kind : Nat
  a : Int
  b : Int
def Tst.holds (t : Tst) (M : Mach) : Bool :=
  if t.kind % 3 = 0 then decide (M.pc = t.a)
  else if t.kind % 3 = 1 then decide (0 ≤ t.a) && decide (t.a < (M.m.length : Int)) && (M.m.getD t.a.toNat 0 != t.b)
  else decide (t.b < M.r.getD (t.a % 16).toNat 0)
/-- The results of a predicate at the first times. -/
def tl (p : Mach → Bool) (code : Prg) (M : Mach) (L : Nat) : List Bool := (List.range (L + 1)).map fun t => p (tr code M t)
theorem tl_len (p : Mach → Bool) (code : Prg) (M : Mach) (L : Nat) : (tl p code M L).length = L + 1 := by simp [tl]
theorem tl_get {p : Mach → Bool} {code : Prg} {M : Mach} {L t : Nat} (h : t ≤ L) : (tl p code M L).getD t false = p (tr code M t) := by
  unfold tl
  rw [List.getD_eq_getElem?_getD, List.getElem?_map, List.getElem?_range (by omega)]; rfl
theorem tl_succ (p : Mach → Bool) (code : Prg) (M : Mach) (L : Nat) : tl p code M (L + 1) = tl p code M L ++ [p (tr code M (L + 1))] := by
  unfold tl
  rw [List.range_succ, List.map_append]; rfl
/-- The line ends where it may: after so many steps, or at the first that fails. -/
structure Lin (code : Prg) (M : Mach) (K L : Nat) : Prop where
  le : L ≤ K
  ran : Ran code M L
  stop : L = K ∨ te code M L ≠ 0
theorem lin_any (code : Prg) (M : Mach) (K : Nat) : ∃ L, Lin code M K L := by
  rcases reach' code M K with h | ⟨k, h1, h2, h3⟩
  · exact ⟨K, Nat.le_refl _, h, .inl rfl⟩
  · exact ⟨k, by omega, h2, .inr h3⟩
where
  reach' (code : Prg) (M : Mach) : ∀ t, Ran code M t ∨ ∃ k, k < t ∧ Ran code M k ∧ te code M k ≠ 0
  | 0 => .inl (Ran.zero _ _)
  | t + 1 => by
    rcases reach' code M t with h | ⟨k, h1, h2, h3⟩
    · by_cases h0 : te code M t = 0
      · exact .inl (h.succ h0)
      · exact .inr ⟨t, Nat.lt_succ_self _, h, h0⟩
    · exact .inr ⟨k, by omega, h2, h3⟩
/-- Forward: at most s steps from time j. -/
def findF (code : Prg) (M : Mach) (p : Mach → Bool) : Nat → Nat → Option Nat
  | 0, _ => none
  | s + 1, j => if te code M j ≠ 0 then none else if p (tr code M (j + 1)) then some (j + 1) else findF code M p s (j + 1)
/-- Backward. -/
def findB (code : Prg) (M : Mach) (p : Mach → Bool) : Nat → Nat → Option Nat
  | 0, _ => none
  | _ + 1, 0 => none
  | s + 1, j + 1 => if p (tr code M j) then some j else findB code M p s j
/-- The last time at which the predicate holds. -/
def lastF (code : Prg) (M : Mach) (p : Mach → Bool) : Nat → Nat → Option Nat → Option Nat
  | 0, j, acc => if p (tr code M j) then some j else acc
  | s + 1, j, acc => if te code M j ≠ 0 then (if p (tr code M j) then some j else acc) else lastF code M p s (j + 1) (if p (tr code M j) then some j else acc)
def nextR (l : List Bool) : Nat → Nat → Option Nat
  | 0, _ => none
  | s + 1, t => if t < l.length then (if l.getD t false = true then some t else nextR l s (t + 1)) else none
def prevR (l : List Bool) : Nat → Nat → Option Nat
  | 0, _ => none
  | _ + 1, 0 => none
  | s + 1, j + 1 => if j < l.length ∧ l.getD j false = true then some j else prevR l s j
def lastR (l : List Bool) : Nat → Nat → Option Nat → Option Nat
  | 0, _, acc => acc
  | s + 1, t, acc => if t < l.length then lastR l s (t + 1) (if l.getD t false = true then some t else acc) else acc
theorem findF_ref {code : Prg} {M : Mach} {p : Mach → Bool} {K L : Nat} (hl : Lin code M K L) : ∀ s j, j ≤ L → (L = K → j + s ≤ K) → findF code M p s j = nextR (tl p code M L) s (j + 1)
  | 0, _, _, _ => rfl
  | s + 1, j, hj, hs => by
    unfold findF nextR
    rw [tl_len]
    rcases Nat.lt_or_ge j L with h | h
    · have h0 : te code M j = 0 := hl.ran j h
      rw [if_neg (by simp [h0]), if_pos (show j + 1 < L + 1 by omega), tl_get (by omega)]
      by_cases hp : p (tr code M (j + 1)) = true
      · rw [if_pos hp, if_pos hp]
      · rw [if_neg hp, if_neg hp]
        exact findF_ref hl s (j + 1) (by omega) (fun e => by have := hs e; omega)
    · obtain rfl : j = L := by omega
      have hne : te code M j ≠ 0 := hl.stop.resolve_left fun e => by have := hs e; omega
      rw [if_pos hne, if_neg (show ¬ j + 1 < j + 1 by omega)]
theorem findB_ref {code : Prg} {M : Mach} {p : Mach → Bool} {L : Nat} : ∀ s j, j ≤ L + 1 → findB code M p s j = prevR (tl p code M L) s j
  | 0, j, _ => by cases j <;> rfl
  | s + 1, 0, _ => rfl
  | s + 1, j + 1, hj => by
    unfold findB prevR
    rw [tl_len, tl_get (by omega)]
    by_cases hp : p (tr code M j) = true
    · rw [if_pos hp, if_pos ⟨by omega, hp⟩]
    · rw [if_neg hp, if_neg (fun h => hp h.2)]
      exact findB_ref s j (by omega)
theorem lastF_ref {code : Prg} {M : Mach} {p : Mach → Bool} {K L : Nat} (hl : Lin code M K L) : ∀ s j acc, j ≤ L → (L = K → j + s ≤ K) → lastF code M p s j acc = lastR (tl p code M L) (s + 1) j acc
  | 0, j, acc, hj, _ => by
    unfold lastF lastR lastR
    rw [tl_len, if_pos (show j < L + 1 by omega), tl_get hj]
  | s + 1, j, acc, hj, hs => by
    unfold lastF lastR
    rw [tl_len, if_pos (show j < L + 1 by omega), tl_get hj]
    rcases Nat.lt_or_ge j L with h | h
    · have h0 : te code M j = 0 := hl.ran j h
      rw [if_neg (by simp [h0])]
      exact lastF_ref hl s (j + 1) _ (by omega) (fun e => by have := hs e; omega)
    · obtain rfl : j = L := by omega
      have hne : te code M j ≠ 0 := hl.stop.resolve_left fun e => by have := hs e; omega
      rw [if_pos hne]
      unfold lastR
      rw [tl_len, if_neg (show ¬ j + 1 < j + 1 by omega)]
theorem findF_some {code : Prg} {M : Mach} {p : Mach → Bool} : ∀ s j t, findF code M p s j = some t → j < t ∧ t ≤ j + s ∧ p (tr code M t) = true ∧ (∀ i, j ≤ i → i < t → te code M i = 0) ∧ ∀ i, j < i → i < t → p (tr code M i) = false
  | 0, _, _, h => by simp [findF] at h
  | s + 1, j, t, h => by
    unfold findF at h
    by_cases h0 : te code M j = 0
    · rw [if_neg (by simp [h0])] at h
      by_cases hp : p (tr code M (j + 1)) = true
      · rw [if_pos hp] at h
        injection h with h
        subst h
        exact ⟨by omega, by omega, hp, fun i h1 h2 => by obtain rfl : i = j := by omega
                                                         exact h0, fun i h1 h2 => by omega⟩
      · rw [if_neg hp] at h
        obtain ⟨h1, h2, h3, h4, h5⟩ := findF_some s (j + 1) t h
        refine ⟨by omega, by omega, h3, fun i h6 h7 => ?_, fun i h6 h7 => ?_⟩
        · rcases Nat.eq_or_lt_of_le h6 with rfl | h8
          · exact h0
          · exact h4 i h8 h7
        · rcases Nat.eq_or_lt_of_le (show j + 1 ≤ i from h6) with rfl | h8
          · simpa using hp
          · exact h5 i h8 h7
    · rw [if_pos h0] at h; simp at h
theorem findB_some {code : Prg} {M : Mach} {p : Mach → Bool} : ∀ s j t, findB code M p s j = some t → t < j ∧ j ≤ t + s ∧ p (tr code M t) = true ∧ ∀ i, t < i → i < j → p (tr code M i) = false
  | 0, _, _, h => by simp [findB] at h
  | s + 1, 0, _, h => by simp [findB] at h
  | s + 1, j + 1, t, h => by
    unfold findB at h
    by_cases hp : p (tr code M j) = true
    · rw [if_pos hp] at h
      injection h with h
      subst h
      exact ⟨by omega, by omega, hp, fun i h1 h2 => by omega⟩
    · rw [if_neg hp] at h
      obtain ⟨h1, h2, h3, h4⟩ := findB_some s j t h
      refine ⟨by omega, by omega, h3, fun i h6 h7 => ?_⟩
      rcases Nat.eq_or_lt_of_le (show i ≤ j by omega) with rfl | h8
      · simpa using hp
      · exact h4 i h6 h8
theorem findB_none {code : Prg} {M : Mach} {p : Mach → Bool} : ∀ s j, findB code M p s j = none → ∀ i, i < j → j ≤ i + s → p (tr code M i) = false
  | 0, j, _, i, h1, h2 => by omega
  | s + 1, 0, _, i, h1, h2 => by omega
  | s + 1, j + 1, h, i, h1, h2 => by
    unfold findB at h
    by_cases hp : p (tr code M j) = true
    · rw [if_pos hp] at h; simp at h
    · rw [if_neg hp] at h
      rcases Nat.eq_or_lt_of_le (show i ≤ j by omega) with rfl | h8
      · simpa using hp
      · exact findB_none s j h i h8 (by omega)
theorem findF_none {code : Prg} {M : Mach} {p : Mach → Bool} : ∀ s j, findF code M p s j = none → ∀ i, j < i → i ≤ j + s → (∀ k, j ≤ k → k < i → te code M k = 0) → p (tr code M i) = false
  | 0, j, _, i, h1, h2, _ => by omega
  | s + 1, j, h, i, h1, h2, h3 => by
    unfold findF at h
    have h0 := h3 j (Nat.le_refl _) h1
    rw [if_neg (by simp [h0])] at h
    by_cases hp : p (tr code M (j + 1)) = true
    · rw [if_pos hp] at h; simp at h
    · rw [if_neg hp] at h
      rcases Nat.eq_or_lt_of_le (show j + 1 ≤ i from h1) with rfl | h8
      · simpa using hp
      · exact findF_none s (j + 1) h i h8 (by omega) (fun k h4 h5 => h3 k (by omega) h5)
/-- The time that the binary search finds. -/
def bis (p : Nat → Bool) : Nat → Nat → Nat → Nat
  | 0, _, hi => hi
  | f + 1, lo, hi => if hi - lo ≤ 1 then hi else if p (lo + (hi - lo) / 2) = true then bis p f lo (lo + (hi - lo) / 2) else bis p f (lo + (hi - lo) / 2) hi
theorem bis_spec {p : Nat → Bool} : ∀ f lo hi, lo < hi → hi - lo ≤ f + 1 → p lo = false → p hi = true → lo < bis p f lo hi ∧ bis p f lo hi ≤ hi ∧ p (bis p f lo hi) = true ∧ p (bis p f lo hi - 1) = false
  | 0, lo, hi, h1, h2, h3, h4 => by
    unfold bis
    obtain rfl : hi = lo + 1 := by omega
    exact ⟨h1, Nat.le_refl _, h4, h3⟩
  | f + 1, lo, hi, h1, h2, h3, h4 => by
    unfold bis
    by_cases h : hi - lo ≤ 1
    · rw [if_pos h]
      obtain rfl : hi = lo + 1 := by omega
      exact ⟨h1, Nat.le_refl _, h4, h3⟩
    · rw [if_neg h]
      by_cases hp : p (lo + (hi - lo) / 2) = true
      · rw [if_pos hp]
        have := bis_spec f lo (lo + (hi - lo) / 2) (by omega) (by omega) h3 hp
        exact ⟨this.1, by omega, this.2.2⟩
      · rw [if_neg hp]
        have := bis_spec f (lo + (hi - lo) / 2) hi (by omega) (by omega) (by simpa using hp) h4
        exact ⟨by omega, this.2⟩
/-- The times from 1 on, below a bound, at which the predicate holds. -/
def hits (p : Nat → Bool) (n : Nat) : List Nat := (List.range n).filter fun t => decide (1 ≤ t) && p t
theorem hits_succ (p : Nat → Bool) (n : Nat) : hits p (n + 1) = hits p n ++ if 1 ≤ n ∧ p n = true then [n] else [] := by
  unfold hits
  rw [List.range_succ, List.filter_append]
  congr 1
  by_cases h : 1 ≤ n <;> cases hp : p n <;> simp [h, hp]
theorem hits_gap {p : Nat → Bool} {a : Nat} : ∀ b, a ≤ b → (∀ i, a ≤ i → i < b → 1 ≤ i → p i = false) → hits p b = hits p a
  | 0, h, _ => by obtain rfl : a = 0 := by omega
                  rfl
  | b + 1, h, hp => by
    rcases Nat.eq_or_lt_of_le h with rfl | h'
    · rfl
    · rw [hits_succ, if_neg (fun e => by have := hp b (by omega) (by omega) e.1; rw [this] at e; exact absurd e.2 (by decide)), List.append_nil]
      exact hits_gap b (by omega) (fun i h1 h2 h3 => hp i h1 (by omega) h3)
theorem hits_one (p : Nat → Bool) : hits p 1 = [] := rfl
theorem hits_le (p : Nat → Bool) (n : Nat) : (hits p n).length ≤ n := by
  unfold hits
  exact Nat.le_trans (List.length_filter_le _ _) (by simp)
theorem hits_fwd {code : Prg} {M : Mach} {p : Mach → Bool} {s j t : Nat} (h : findF code M p s j = some t) : hits (fun i => p (tr code M i)) (t + 1) = hits (fun i => p (tr code M i)) (j + 1) ++ [t] := by
  obtain ⟨h1, h2, h3, h4, h5⟩ := findF_some s j t h
  rw [hits_succ, if_pos ⟨by omega, h3⟩, hits_gap (a := j + 1) t (by omega) (fun i h6 h7 h8 => h5 i (by omega) h7)]
theorem hits_end {code : Prg} {M : Mach} {p : Mach → Bool} {L j : Nat} (hr : Ran code M L) (hj : j ≤ L) (h : findF code M p (L - j) j = none) : hits (fun i => p (tr code M i)) (L + 1) = hits (fun i => p (tr code M i)) (j + 1) :=
  hits_gap (a := j + 1) (L + 1) (by omega) fun i h1 h2 _ => findF_none (L - j) j h i (by omega) (by omega) fun k _ h3 => hr k (by omega)
theorem hits_back {code : Prg} {M : Mach} {p : Mach → Bool} {s j t : Nat} (h : findB code M p s j = some t) (h0 : 1 ≤ t) : hits (fun i => p (tr code M i)) j = hits (fun i => p (tr code M i)) t ++ [t] := by
  obtain ⟨h1, h2, h3, h4⟩ := findB_some s j t h
  rw [hits_gap (a := t + 1) j (by omega) (fun i h6 h7 _ => h4 i (by omega) h7), hits_succ, if_pos ⟨h0, h3⟩]
theorem hits_back0 {code : Prg} {M : Mach} {p : Mach → Bool} {s j : Nat} (h : findB code M p s j = some 0) : hits (fun i => p (tr code M i)) j = [] := by
  obtain ⟨h1, h2, h3, h4⟩ := findB_some s j 0 h
  rw [hits_gap (a := 1) j (by omega) (fun i h6 h7 _ => h4 i (by omega) h7)]; rfl
theorem hits_backN {code : Prg} {M : Mach} {p : Mach → Bool} {s j : Nat} (h : findB code M p s j = none) (hs : j ≤ s) (hj : 1 ≤ j) : hits (fun i => p (tr code M i)) j = [] := by
  rw [hits_gap (a := 1) j (by omega) (fun i h6 h7 _ => findB_none s j h i h7 (by omega))]; rfl
theorem findB_nil {code : Prg} {M : Mach} {p : Mach → Bool} {s j : Nat} (h : hits (fun i => p (tr code M i)) j = []) (hs : j ≤ s) (hj : 1 ≤ j) : findB code M p s j = if p M = true then some 0 else none := by
  cases hf : findB code M p s j with
  | none =>
    have := findB_none s j hf 0 (by omega) (by omega)
    rw [if_neg (by rw [show tr code M 0 = M from rfl] at this; rw [this]; decide)]
  | some t =>
    obtain ⟨h1, h2, h3, h4⟩ := findB_some s j t hf
    have ht : t = 0 := Nat.eq_zero_of_not_pos fun hp => by
      have := hits_back hf hp
      rw [h] at this
      simp at this
    subst ht
    rw [if_pos (show p M = true from h3)]
/-- How a search forward goes: N steps after which the predicate does not hold; then the number is out, or a step fails, or it holds. -/
def FinF (code : Prg) (M : Mach) (p : Mach → Bool) (s j N : Nat) (r : Option Nat) : Prop :=
  N ≤ s ∧ (∀ i, i < N → te code M (j + i) = 0 ∧ p (tr code M (j + i + 1)) = false) ∧
  ((N = s ∧ r = none) ∨ (N < s ∧ te code M (j + N) ≠ 0 ∧ r = none) ∨ (N < s ∧ te code M (j + N) = 0 ∧ p (tr code M (j + N + 1)) = true ∧ r = some (j + N + 1)))
theorem findF_fin (code : Prg) (M : Mach) (p : Mach → Bool) : ∀ s j, ∃ N, FinF code M p s j N (findF code M p s j)
  | 0, j => ⟨0, Nat.le_refl _, fun i hi => absurd hi (Nat.not_lt_zero _), .inl ⟨rfl, rfl⟩⟩
  | s + 1, j => by
    unfold findF
    by_cases h0 : te code M j = 0
    · rw [if_neg (by simp [h0])]
      by_cases hp : p (tr code M (j + 1)) = true
      · rw [if_pos hp]
        exact ⟨0, Nat.zero_le _, fun i hi => absurd hi (Nat.not_lt_zero _), .inr (.inr ⟨Nat.succ_pos _, h0, hp, rfl⟩)⟩
      · rw [if_neg hp]
        obtain ⟨N, hN, hlt, hst⟩ := findF_fin code M p s (j + 1)
        have sh : ∀ i, j + (i + 1) = j + 1 + i := fun i => by omega
        refine ⟨N + 1, by omega, ?_, ?_⟩
        · intro i hi
          rcases i with _ | i
          · exact ⟨h0, by simpa using hp⟩
          · rw [sh]; exact hlt i (by omega)
        · rw [sh N]
          rcases hst with ⟨h, h'⟩ | ⟨h, h'⟩ | ⟨h, h'⟩
          · exact .inl ⟨by omega, h'⟩
          · exact .inr (.inl ⟨by omega, h'⟩)
          · exact .inr (.inr ⟨by omega, h'⟩)
    · rw [if_pos h0]
      exact ⟨0, Nat.zero_le _, fun i hi => absurd hi (Nat.not_lt_zero _), .inr (.inl ⟨Nat.succ_pos _, h0, rfl⟩)⟩
def FinB (code : Prg) (M : Mach) (p : Mach → Bool) (s j N : Nat) (r : Option Nat) : Prop :=
  N ≤ s ∧ N ≤ j ∧ (∀ i, i < N → p (tr code M (j - i - 1)) = false) ∧
  ((N = s ∧ r = none) ∨ (N < s ∧ N = j ∧ r = none) ∨ (N < s ∧ N < j ∧ p (tr code M (j - N - 1)) = true ∧ r = some (j - N - 1)))
theorem findB_fin (code : Prg) (M : Mach) (p : Mach → Bool) : ∀ s j, ∃ N, FinB code M p s j N (findB code M p s j)
  | 0, j => ⟨0, Nat.le_refl _, Nat.zero_le _, fun i hi => absurd hi (Nat.not_lt_zero _), .inl ⟨rfl, rfl⟩⟩
  | s + 1, 0 => ⟨0, Nat.zero_le _, Nat.le_refl _, fun i hi => absurd hi (Nat.not_lt_zero _), .inr (.inl ⟨Nat.succ_pos _, rfl, rfl⟩)⟩
  | s + 1, j + 1 => by
    unfold findB
    by_cases hp : p (tr code M j) = true
    · rw [if_pos hp]
      exact ⟨0, Nat.zero_le _, Nat.zero_le _, fun i hi => absurd hi (Nat.not_lt_zero _), .inr (.inr ⟨Nat.succ_pos _, Nat.succ_pos _, hp, rfl⟩)⟩
    · rw [if_neg hp]
      obtain ⟨N, hN, hj, hlt, hst⟩ := findB_fin code M p s j
      have sh : ∀ i, j + 1 - (i + 1) = j - i := fun i => by omega
      refine ⟨N + 1, by omega, by omega, ?_, ?_⟩
      · intro i hi
        rcases i with _ | i
        · simpa using hp
        · rw [sh]; exact hlt i (by omega)
      · rw [sh]
        rcases hst with ⟨h, h'⟩ | ⟨h, h1, h'⟩ | ⟨h, h1, h'⟩
        · exact .inl ⟨by omega, h'⟩
        · exact .inr (.inl ⟨by omega, by omega, h'⟩)
        · exact .inr (.inr ⟨by omega, by omega, h'⟩)
/-- The last of the first n times from j on at which the predicate holds. -/
def accL (code : Prg) (M : Mach) (p : Mach → Bool) (j : Nat) : Nat → Option Nat → Option Nat
  | 0, acc => acc
  | n + 1, acc => if p (tr code M (j + n)) = true then some (j + n) else accL code M p j n acc
theorem accL_shift (code : Prg) (M : Mach) (p : Mach → Bool) (j : Nat) (acc : Option Nat) : ∀ n, accL code M p (j + 1) n (if p (tr code M j) = true then some j else acc) = accL code M p j (n + 1) acc
  | 0 => rfl
  | n + 1 => by
    unfold accL
    rw [accL_shift code M p j acc n, show j + 1 + n = j + (n + 1) by omega]
theorem lastF_fin (code : Prg) (M : Mach) (p : Mach → Bool) : ∀ s j acc, ∃ N, N ≤ s ∧ (∀ i, i < N → te code M (j + i) = 0) ∧ (N = s ∨ (N < s ∧ te code M (j + N) ≠ 0)) ∧ lastF code M p s j acc = accL code M p j (N + 1) acc
  | 0, j, acc => ⟨0, Nat.le_refl _, fun i hi => absurd hi (Nat.not_lt_zero _), .inl rfl, rfl⟩
  | s + 1, j, acc => by
    unfold lastF
    by_cases h0 : te code M j = 0
    · rw [if_neg (by simp [h0])]
      obtain ⟨N, h1, h2, h3, h4⟩ := lastF_fin code M p s (j + 1) (if p (tr code M j) = true then some j else acc)
      have sh : ∀ i, j + (i + 1) = j + 1 + i := fun i => by omega
      refine ⟨N + 1, by omega, ?_, ?_, by rw [h4, accL_shift]⟩
      · intro i hi
        rcases i with _ | i
        · exact h0
        · rw [sh]; exact h2 i (by omega)
      · rw [sh]
        rcases h3 with h | h
        · exact .inl (by omega)
        · exact .inr ⟨by omega, h.2⟩
    · rw [if_pos h0]
      exact ⟨0, Nat.zero_le _, fun i hi => absurd hi (Nat.not_lt_zero _), .inr ⟨Nat.succ_pos _, h0⟩, rfl⟩
end Bk

/- Predicates of layer 34: the closures of AtPC and Changed, own, predicate. -/
set_option maxRecDepth 100000
set_option linter.unusedVariables false
set_option linter.unusedSimpArgs false
namespace Bk
open Go Go.RowKit
/-- A function value holds where a predicate of machines does, as long as its own cells stay. -/
def PredM (P : Program) (g : FuncId) (fs lb : Array Value) (C : Nat → Prop) (p : Mach → Bool) (w : World) : Prop :=
  ∀ (W : World) (M : Mach) (vm vs vc vi vo : Value) (sv : List Value) (D : Nat → Prop), (∀ b o, C b → W.cell? ⟨b, o, none⟩ = w.cell? ⟨b, o, none⟩) → (∀ b, C b → b < W.heap.size) →
    MLs W D M vm vs vc vi vo sv → MBd M → Calls P g (fs.push (.agg (mcells M vm vs vc vi vo).toArray) ++ lb) W fun e W' => e = .returned (.bool (p M)) ∧ Below W.heap.size W W'
theorem PredM.keep {P : Program} {g : FuncId} {fs lb : Array Value} {C : Nat → Prop} {p : Mach → Bool} {w w' : World} (h : PredM P g fs lb C p w) (hk : ∀ b o, C b → w'.cell? ⟨b, o, none⟩ = w.cell? ⟨b, o, none⟩) : PredM P g fs lb C p w' :=
  fun W M vm vs vc vi vo sv D h1 h2 h3 h4 => h W M vm vs vc vi vo sv D (fun b o hc => (h1 b o hc).trans (hk b o hc)) h2 h3 h4
theorem PredM.fr {P : Program} {g : FuncId} {fs lb : Array Value} {C : Nat → Prop} {p : Mach → Bool} {w w' : World} (h : PredM P g fs lb C p w) {O : Nat → Prop} (hf : Fr O w w') (hC : ∀ b, C b → b < w.heap.size ∧ ¬ O b) : PredM P g fs lb C p w' :=
  h.keep fun b o hc => hf.cell (hC b hc).1 (hC b hc).2 o
theorem PredM.next {P : Program} {g : FuncId} {fs lb : Array Value} {C : Nat → Prop} {p : Mach → Bool} {w w' : World} (h : PredM P g fs lb C p w) (hb : Below w.heap.size w w') (hC : ∀ b, C b → b < w.heap.size) : PredM P g fs lb C p w' :=
  h.keep fun b o hc => hb.cell (p := ⟨b, o, none⟩) (hC b hc)
theorem beq_dec {x y : Int} : (x == y) = decide (x = y) := rfl
end Bk
namespace Go.Proofs.YteenmpjjaheggaaDoor
open Go.RowKit Bk
variable {w : World} {D : Nat → Prop} {P : Pl} {M : Mach} {vm vs vc vi vo : Value} {sv : List Value}
theorem c_AtPC1 (hL : MLs w D M vm vs vc vi vo sv) {bq : Nat} {q : Int} (hb : bq < w.heap.size) (hq : w.cell? ⟨bq, 0, none⟩ = some (.int .i64 q)) :
    Calls Tryd.prog 60 #[.agg (mcells M vm vs vc vi vo).toArray, .pointer (some ⟨bq, 0, none⟩)] w fun e w' => e = .returned (.bool (decide (M.pc = q))) ∧ Below w.heap.size w w' := by
  go_enter Tryd.func60, Tryd.ntmps60
  go_upto_region 1 with fail; refine wp_nameY ?_; intro w1 hw1; have hB_w1 : Below w.heap.size w w1 := (by rw [hw1]; exact (by go_grown)); have KM : Blk w1 w.heap.size 27 (mcells M vm vs vc vi vo).toArray := (by rw [hw1]; exact (by repeat' (first | assumption | exact Blk.new' (by simp) _ _ | apply Blk.alloc | apply Blk.drew)))
  have c0 : w1.cell? ⟨w.heap.size, 0, none⟩ = some (.int .i64 M.pc) := by rw [KM.cell 0, List.getElem?_toArray]; rfl
  have cq : w1.cell? ⟨bq, 0, none⟩ = some (.int .i64 q) := (hB_w1.cell (p := ⟨bq, 0, none⟩) hb).trans hq
  have zm : w.heap.size < w1.heap.size := KM.lt
  clear hw1 KM
  go_wp2_with fail
  go_ret
  exact ⟨rfl, hB_w1.next (by repeat' (first | (with_reducible assumption) | (with_reducible exact Below.refl _ _) | (with_reducible refine Below.alloc ?_ ?_ _) | (with_reducible refine Bk.drewN_ ?_ _) | (with_reducible refine Below.drew ?_) | (with_reducible refine Below.setCell ?_ ?_ _) | go_size))⟩
theorem c_Changed1 (hL : MLs w D M vm vs vc vi vo sv) (hml : M.m.length ≤ 1000000) {bq br : Nat} {q r : Int} (hb : bq < w.heap.size) (hq : w.cell? ⟨bq, 0, none⟩ = some (.int .i64 q)) (hb' : br < w.heap.size) (hr : w.cell? ⟨br, 0, none⟩ = some (.int .i64 r)) :
    Calls Tryd.prog 59 #[.agg (mcells M vm vs vc vi vo).toArray, .pointer (some ⟨bq, 0, none⟩), .pointer (some ⟨br, 0, none⟩)] w fun e w' => e = .returned (.bool (decide (0 ≤ q) && decide (q < (M.m.length : Int)) && (M.m.getD q.toNat 0 != r))) ∧ Below w.heap.size w w' := by
  obtain ⟨v, hv⟩ : ∃ v, (decide (0 ≤ q) && decide (q < (M.m.length : Int)) && (M.m.getD q.toNat 0 != r)) = v := ⟨_, rfl⟩
  rw [hv]
  obtain ⟨Am, cm, rfl, hnc, hAm, hRm⟩ := hL.m
  have hd := hL.d
  obtain ⟨_, _, _, g18, _⟩ := mc_get (vm := .slice Am M.m.length cm) (vs := vs) (vc := vc) (vi := vi) (vo := vo) hL.rl
  go_enter Tryd.func59, Tryd.ntmps59
  go_upto_region 1 with fail; refine wp_nameY ?_; intro w1 hw1; have hB_w1 : Below w.heap.size w w1 := (by rw [hw1]; exact (by go_grown)); have KM : Blk w1 w.heap.size 27 (mcells M (.slice Am M.m.length cm) vs vc vi vo).toArray := (by rw [hw1]; exact (by repeat' (first | assumption | exact Blk.new' (by simp) _ _ | apply Blk.alloc | apply Blk.drew)))
  have c18 : w1.cell? ⟨w.heap.size, 18, none⟩ = some (.slice Am M.m.length cm) := by rw [KM.cell 18, List.getElem?_toArray]; exact g18
  have cq : w1.cell? ⟨bq, 0, none⟩ = some (.int .i64 q) := (hB_w1.cell (p := ⟨bq, 0, none⟩) hb).trans hq
  have cr : w1.cell? ⟨br, 0, none⟩ = some (.int .i64 r) := (hB_w1.cell (p := ⟨br, 0, none⟩) hb').trans hr
  have zm : w.heap.size < w1.heap.size := KM.lt
  have zq : bq < w1.heap.size := by omega
  have zr : br < w1.heap.size := by omega
  clear hw1 KM g18 hL hq hr
  by_cases h1 : 0 ≤ q
  · obtain ⟨k, rfl⟩ := Int.eq_ofNat_of_zero_le h1
    by_cases h2 : k < M.m.length
    · obtain ⟨bm, om, rfl, hdm, hcell⟩ := hRm.2 (by omega)
      have ck := (hB_w1.cell (p := ⟨bm, om + k, none⟩) (hd bm hdm)).trans (hcell k _ (intCells_get _ _ h2))
      have zk : bm < w1.heap.size := by have := hd bm hdm; omega
      have d1 : decide ((0 : Int) ≤ (k : Int)) = true := decide_eq_true h1
      have i2 : (k : Int) < (M.m.length : Int) := by omega
      have d2 : decide ((k : Int) < (M.m.length : Int)) = true := decide_eq_true i2
      rw [d1, d2, Int.toNat_natCast] at hv
      generalize M.m.getD k 0 = z at *
      have HV := Lib.hid hv; clear hv
      clear hRm hcell hdm hd
      go_quiet (fail)
      go_wp2_with fail
      go_ret
      exact ⟨by rw [← HV.out]; simp, hB_w1.next (by repeat' (first | (with_reducible assumption) | (with_reducible exact Below.refl _ _) | (with_reducible refine Below.alloc ?_ ?_ _) | (with_reducible refine Bk.drewN_ ?_ _) | (with_reducible refine Below.drew ?_) | (with_reducible refine Below.setCell ?_ ?_ _) | go_size))⟩
    · have d1 : decide ((0 : Int) ≤ (k : Int)) = true := decide_eq_true h1
      have d2 : decide ((k : Int) < (M.m.length : Int)) = false := decide_eq_false (by omega)
      rw [d1, d2] at hv
      have HV := Lib.hid hv
      clear hv hRm hd
      go_quiet (fail)
      go_wp2_with fail
      go_ret
      exact ⟨by rw [← HV.out]; simp, hB_w1.next (by repeat' (first | (with_reducible assumption) | (with_reducible exact Below.refl _ _) | (with_reducible refine Below.alloc ?_ ?_ _) | (with_reducible refine Bk.drewN_ ?_ _) | (with_reducible refine Below.drew ?_) | (with_reducible refine Below.setCell ?_ ?_ _) | go_size))⟩
  · have d1 : decide (0 ≤ q) = false := decide_eq_false h1
    rw [d1] at hv
    have HV := Lib.hid hv
    clear hv hRm hd
    go_quiet (fail)
    go_wp2_with fail
    go_ret
    exact ⟨by rw [← HV.out]; simp, hB_w1.next (by repeat' (first | (with_reducible assumption) | (with_reducible exact Below.refl _ _) | (with_reducible refine Below.alloc ?_ ?_ _) | (with_reducible refine Bk.drewN_ ?_ _) | (with_reducible refine Below.drew ?_) | (with_reducible refine Below.setCell ?_ ?_ _) | go_size))⟩
theorem c_own (hL : MLs w D M vm vs vc vi vo sv) (hml : M.m.length ≤ 1000000) (k : Nat) (hk : k ≤ 255) (a b : Int) (ha : I64 a) :
    Calls Tryd.prog 20 #[.agg #[.int .u8 k, .int .i64 a, .int .i64 b], .agg (mcells M vm vs vc vi vo).toArray] w fun e w' => e = .returned (.bool ((Tst.mk k a b).holds M)) ∧ Below w.heap.size w w' := by
  obtain ⟨Am, cm, rfl, hnc, hAm, hRm⟩ := hL.m
  have hd := hL.d
  obtain ⟨g0, _, gr, g18, _⟩ := mc_get (vm := .slice Am M.m.length cm) (vs := vs) (vc := vc) (vi := vi) (vo := vo) hL.rl
  have hrl := hL.rl
  obtain ⟨v, hv⟩ : ∃ v, (Tst.mk k a b).holds M = v := ⟨_, rfl⟩
  rw [hv]
  unfold Tst.holds at hv
  dsimp only at hv
  have hmod : ((k : Nat) : Int).tmod 3 = ((k % 3 : Nat) : Int) := by rw [Int.tmod_eq_emod_of_nonneg (by omega)]; omega
  obtain ⟨r, hr⟩ : ∃ r, k % 3 = r := ⟨_, rfl⟩
  have hr3 : r = 0 ∨ r = 1 ∨ r = 2 := by omega
  rw [hr] at hmod hv
  clear hr
  have hw8 : IntKind.u8.wrap ((r : Nat) : Int) = ((r : Nat) : Int) := by rcases hr3 with rfl | rfl | rfl <;> rfl
  go_enter Tryd.func20, Tryd.ntmps20
  go_upto_region 1 with fail; refine wp_nameY ?_; intro w1 hw1; have hB_w1 : Below w.heap.size w w1 := (by rw [hw1]; exact (by go_grown)); have KM : Blk w1 (w.heap.size + 1) 27 (mcells M (.slice Am M.m.length cm) vs vc vi vo).toArray := (by rw [hw1]; exact (by repeat' (first | assumption | exact Blk.new' (by simp) _ _ | apply Blk.alloc | apply Blk.drew)))
  have KT : Blk w1 w.heap.size 42 #[.int .u8 k, .int .i64 a, .int .i64 b] := by rw [hw1]; exact (by repeat' (first | assumption | exact Blk.new' (by simp) _ _ | apply Blk.alloc | apply Blk.drew))
  have c0 : w1.cell? ⟨w.heap.size + 1, 0, none⟩ = some (.int .i64 M.pc) := by rw [KM.cell 0, List.getElem?_toArray]; exact g0
  have c18 : w1.cell? ⟨w.heap.size + 1, 18, none⟩ = some (.slice Am M.m.length cm) := by rw [KM.cell 18, List.getElem?_toArray]; exact g18
  have zm : w.heap.size + 1 < w1.heap.size := KM.lt
  obtain ⟨z_t, T_t, F_t⟩ := KT.open_
  clear hw1 KT g18 g0 hL
  rcases hr3 with rfl | rfl | rfl
  · rw [if_pos rfl] at hv
    have HV := Lib.hid hv
    clear hv
    go_wp2_with fail
    go_ret
    exact ⟨by rw [← HV.out]; rfl, hB_w1.next (by repeat' (first | (with_reducible assumption) | (with_reducible exact Below.refl _ _) | (with_reducible refine Below.alloc ?_ ?_ _) | (with_reducible refine Bk.drewN_ ?_ _) | (with_reducible refine Below.drew ?_) | (with_reducible refine Below.setCell ?_ ?_ _) | go_size))⟩
  · rw [if_neg (by decide), if_pos rfl] at hv
    by_cases h1 : 0 ≤ a
    · obtain ⟨i, rfl⟩ := Int.eq_ofNat_of_zero_le h1
      by_cases h2 : i < M.m.length
      · obtain ⟨bm, om, rfl, hdm, hcell⟩ := hRm.2 (by omega)
        have ck := (hB_w1.cell (p := ⟨bm, om + i, none⟩) (hd bm hdm)).trans (hcell i _ (intCells_get _ _ h2))
        have zk : bm < w1.heap.size := by have := hd bm hdm; omega
        have d1 : decide ((0 : Int) ≤ (i : Int)) = true := decide_eq_true h1
        have i2 : (i : Int) < (M.m.length : Int) := by omega
        have d2 : decide ((i : Int) < (M.m.length : Int)) = true := decide_eq_true i2
        rw [d1, d2, Int.toNat_natCast] at hv
        generalize M.m.getD i 0 = z at *
        have HV := Lib.hid hv
        clear hv
        clear hRm hcell hdm hd gr KM
        go_wp2_with fail
        go_quiet (fail)
        go_wp2_with fail
        go_ret
        exact ⟨by rw [← HV.out]; simp, hB_w1.next (by repeat' (first | (with_reducible assumption) | (with_reducible exact Below.refl _ _) | (with_reducible refine Below.alloc ?_ ?_ _) | (with_reducible refine Bk.drewN_ ?_ _) | (with_reducible refine Below.drew ?_) | (with_reducible refine Below.setCell ?_ ?_ _) | go_size))⟩
      · have d1 : decide ((0 : Int) ≤ (i : Int)) = true := decide_eq_true h1
        have d2 : decide ((i : Int) < (M.m.length : Int)) = false := decide_eq_false (by omega)
        rw [d1, d2] at hv
        have HV := Lib.hid hv
        clear hv
        clear hRm hd gr KM
        go_wp2_with fail
        go_quiet (fail)
        go_wp2_with fail
        go_ret
        exact ⟨by rw [← HV.out]; simp, hB_w1.next (by repeat' (first | (with_reducible assumption) | (with_reducible exact Below.refl _ _) | (with_reducible refine Below.alloc ?_ ?_ _) | (with_reducible refine Bk.drewN_ ?_ _) | (with_reducible refine Below.drew ?_) | (with_reducible refine Below.setCell ?_ ?_ _) | go_size))⟩
    · have d1 : decide (0 ≤ a) = false := decide_eq_false h1
      rw [d1] at hv
      have HV := Lib.hid hv
      clear hv
      clear hRm hd gr KM
      go_wp2_with fail
      go_quiet (fail)
      go_wp2_with fail
      go_ret
      exact ⟨by rw [← HV.out]; simp, hB_w1.next (by repeat' (first | (with_reducible assumption) | (with_reducible exact Below.refl _ _) | (with_reducible refine Below.alloc ?_ ?_ _) | (with_reducible refine Bk.drewN_ ?_ _) | (with_reducible refine Below.drew ?_) | (with_reducible refine Below.setCell ?_ ?_ _) | go_size))⟩
  · rw [if_neg (by decide), if_neg (by decide)] at hv
    unfold I64 at ha
    obtain ⟨x, hx⟩ : ∃ x : Nat, (a % 16).toNat = x := ⟨_, rfl⟩
    have hx16 : x < 16 := by omega
    have hconv : (IntKind.u64.wrap a).tmod 16 = (x : Int) := by
      rw [Int.tmod_eq_emod_of_nonneg (by simp [IntKind.wrap, IntKind.bits, IntKind.signed]; omega)]
      simp [IntKind.wrap, IntKind.bits, IntKind.signed]; omega
    have hxw : IntKind.u64.wrap (x : Int) = (x : Int) := by simp [IntKind.wrap, IntKind.bits, IntKind.signed]; omega
    rw [hx] at hv
    have ck : w1.cell? ⟨w.heap.size + 1, 2 + x, none⟩ = some (.int .i64 (M.r.getD x 0)) := by rw [KM.cell (2 + x), List.getElem?_toArray]; exact gr x hx16
    have x0 : (0 : Int) ≤ (x : Int) := by omega
    have x1 : (x : Int) < 16 := by omega
    generalize M.r.getD x 0 = z at *
    have HV := Lib.hid hv
    clear hv
    clear hRm hd gr KM
    go_wp2_with fail
    go_quiet (fail)
    go_wp2_with fail
    go_ret
    exact ⟨by rw [← HV.out]; simp, hB_w1.next (by repeat' (first | (with_reducible assumption) | (with_reducible exact Below.refl _ _) | (with_reducible refine Below.alloc ?_ ?_ _) | (with_reducible refine Bk.drewN_ ?_ _) | (with_reducible refine Below.drew ?_) | (with_reducible refine Below.setCell ?_ ?_ _) | go_size))⟩
theorem run_eql_func (fn : Fn) (first cap : Array Value) (w : World) : (binOp BinOp.eql 53 (.func fn first cap) .nilFunc).run Tryd.prog w = .ok (.bool false) w := by
  have h : ∀ d, (Op.equalIn (d + 1) 53 (.func fn first cap) .nilFunc).run Tryd.prog w = .ok false w := by
    intro d
    simp [Op.equalIn, run_underlying Tryd.underlying53]
  simp [binOp, Op.equal, show Op.maxDepth = 9999 + 1 from rfl, h]
theorem run_eql_nil (w : World) : (binOp BinOp.eql 53 .nilFunc .nilFunc).run Tryd.prog w = .ok (.bool true) w := by
  have h : ∀ d, (Op.equalIn (d + 1) 53 .nilFunc .nilFunc).run Tryd.prog w = .ok true w := by
    intro d
    simp [Op.equalIn, run_underlying Tryd.underlying53]
  simp [binOp, Op.equal, show Op.maxDepth = 9999 + 1 from rfl, h]
theorem c_AtPC (w : World) (q : Int) :
    Calls Tryd.prog 41 #[.int .i64 q] w fun e w' => e = .returned (.func (.func 60) #[] #[.pointer (some ⟨w.heap.size, 0, none⟩)]) ∧ w.heap.size < w'.heap.size ∧ w'.cell? ⟨w.heap.size, 0, none⟩ = some (.int .i64 q) ∧ Below w.heap.size w w' := by
  have hmf : ∀ (fn : Fn) (first cap : Array Value) (w : World), (Instr.makeFunc fn first cap).run Tryd.prog w = .ok (.func fn first cap) w := fun _ _ _ _ => rfl
  go_enter Tryd.func41, Tryd.ntmps41
  go_upto_region 1 with fail
  refine wp_nameY ?_
  intro w1 hw1
  have hB_w1 : Below w.heap.size w w1 := (by rw [hw1]; exact (by go_grown))
  have K : Blk w1 w.heap.size 3 #[.int .i64 q] := by rw [hw1]; exact (by repeat' (first | assumption | exact Blk.new' (by simp) _ _ | apply Blk.alloc | apply Blk.drew))
  have HK := Lib.hid K
  clear hw1 K
  go_wp2_with fail
  go_ret
  have hb : Below w1.heap.size w1 _ := Below.next (by go_grown) (Below.refl _ _)
  exact ⟨rfl, (HK.out.next hb).lt, (HK.out.next hb).cell 0, hB_w1.next hb⟩
theorem c_Changed (w : World) (q r : Int) :
    Calls Tryd.prog 40 #[.int .i64 q, .int .i64 r] w fun e w' => e = .returned (.func (.func 59) #[] #[.pointer (some ⟨w.heap.size, 0, none⟩), .pointer (some ⟨w.heap.size + 1, 0, none⟩)]) ∧ w.heap.size + 1 < w'.heap.size ∧ w'.cell? ⟨w.heap.size, 0, none⟩ = some (.int .i64 q) ∧ w'.cell? ⟨w.heap.size + 1, 0, none⟩ = some (.int .i64 r) ∧ Below w.heap.size w w' := by
  have hmf : ∀ (fn : Fn) (first cap : Array Value) (w : World), (Instr.makeFunc fn first cap).run Tryd.prog w = .ok (.func fn first cap) w := fun _ _ _ _ => rfl
  go_enter Tryd.func40, Tryd.ntmps40
  go_upto_region 1 with fail
  refine wp_nameY ?_
  intro w1 hw1
  have hB_w1 : Below w.heap.size w w1 := (by rw [hw1]; exact (by go_grown))
  have K : Blk w1 w.heap.size 3 #[.int .i64 q] := by rw [hw1]; exact (by repeat' (first | assumption | exact Blk.new' (by simp) _ _ | apply Blk.alloc | apply Blk.drew))
  have K2 : Blk w1 (w.heap.size + 1) 3 #[.int .i64 r] := by rw [hw1]; exact (by repeat' (first | assumption | exact Blk.new' (by simp) _ _ | apply Blk.alloc | apply Blk.drew))
  have HK := Lib.hid K; have HK2 := Lib.hid K2
  clear hw1 K K2
  go_wp2_with fail
  go_ret
  have hb : Below w1.heap.size w1 _ := Below.next (by go_grown) (Below.refl _ _)
  exact ⟨rfl, (HK2.out.next hb).lt, (HK.out.next hb).cell 0, (HK2.out.next hb).cell 0, hB_w1.next hb⟩
theorem pred_AtPC {w : World} {bq : Nat} {q : Int} (hb : bq < w.heap.size) (hq : w.cell? ⟨bq, 0, none⟩ = some (.int .i64 q)) :
    PredM Tryd.prog 60 #[] #[.pointer (some ⟨bq, 0, none⟩)] (· = bq) (fun M => decide (M.pc = q)) w := by
  intro W M vm vs vc vi vo sv D h1 h2 h3 h4
  exact c_AtPC1 h3 (h2 bq rfl) ((h1 bq 0 rfl).trans hq)
theorem pred_Changed {w : World} {bq br : Nat} {q r : Int} (hq : w.cell? ⟨bq, 0, none⟩ = some (.int .i64 q)) (hr : w.cell? ⟨br, 0, none⟩ = some (.int .i64 r)) :
    PredM Tryd.prog 59 #[] #[.pointer (some ⟨bq, 0, none⟩), .pointer (some ⟨br, 0, none⟩)] (fun b => b = bq ∨ b = br) (fun M => decide (0 ≤ q) && decide (q < (M.m.length : Int)) && (M.m.getD q.toNat 0 != r)) w := by
  intro W M vm vs vc vi vo sv D h1 h2 h3 h4
  exact c_Changed1 h3 (by have := h4.ml; omega) (h2 bq (.inl rfl)) ((h1 bq 0 (.inl rfl)).trans hq) (h2 br (.inr rfl)) ((h1 br 0 (.inr rfl)).trans hr)
theorem pred_own (w : World) (k : Nat) (hk : k ≤ 255) (a b : Int) (ha : I64 a) : PredM Tryd.prog 20 #[.agg #[.int .u8 k, .int .i64 a, .int .i64 b]] #[] (fun _ => False) (Tst.holds ⟨k, a, b⟩) w := by
  intro W M vm vs vc vi vo sv D h1 h2 h3 h4
  exact c_own h3 (by have := h4.ml; omega) k hk a b ha
/-- A function value that is a predicate. -/
def IsPred (w : World) (p : Mach → Bool) (lo : Nat) (e : Ending) (w' : World) : Prop :=
  ∃ g fs lb C, e = .returned (.func (.func g) fs lb) ∧ Enters Tryd.prog g ∧ PredM Tryd.prog g fs lb C p w' ∧ (∀ b, C b → lo ≤ b ∧ b < w'.heap.size) ∧ Below w.heap.size w w'
theorem c_predicate (w : World) (k : Nat) (hk : k ≤ 255) (a b : Int) (ha : I64 a) :
    Calls Tryd.prog 18 #[.agg #[.int .u8 k, .int .i64 a, .int .i64 b]] w (IsPred w (Tst.holds ⟨k, a, b⟩) w.heap.size) := by
  have hmf : ∀ (fn : Fn) (first cap : Array Value) (w : World), (Instr.makeFunc fn first cap).run Tryd.prog w = .ok (.func fn first cap) w := fun _ _ _ _ => rfl
  obtain ⟨p, hp⟩ : ∃ p, Tst.holds ⟨k, a, b⟩ = p := ⟨_, rfl⟩
  have hmod : ((k : Nat) : Int).tmod 3 = ((k % 3 : Nat) : Int) := by rw [Int.tmod_eq_emod_of_nonneg (by omega)]; omega
  have hpo := fun w => pred_own w k hk a b ha
  have hp0 : k % 3 = 0 → p = fun M => decide (M.pc = a) := fun h => by rw [← hp]; funext M; unfold Tst.holds; dsimp only; rw [if_pos h]
  have hp1 : k % 3 = 1 → p = fun M => decide (0 ≤ a) && decide (a < (M.m.length : Int)) && (M.m.getD a.toNat 0 != b) := fun h => by rw [← hp]; funext M; unfold Tst.holds; dsimp only; rw [if_neg (by omega), if_pos h]
  rw [hp] at hpo ⊢
  obtain ⟨r, hr⟩ : ∃ r, k % 3 = r := ⟨_, rfl⟩
  have hr3 : r = 0 ∨ r = 1 ∨ r = 2 := by omega
  rw [hr] at hmod hp0 hp1
  have hw8 : IntKind.u8.wrap ((r : Nat) : Int) = ((r : Nat) : Int) := by rcases hr3 with rfl | rfl | rfl <;> rfl
  have HPO := Lib.hid hpo; have HP0 := Lib.hid hp0; have HP1 := Lib.hid hp1
  clear hr hp hpo hp0 hp1
  go_enter Tryd.func18, Tryd.ntmps18
  go_upto_region 1 with fail
  refine wp_nameY ?_
  intro w1 hw1
  have hB_w1 : Below w.heap.size w w1 := (by rw [hw1]; exact (by go_grown))
  have KT : Blk w1 w.heap.size 42 #[.int .u8 k, .int .i64 a, .int .i64 b] := by rw [hw1]; exact (by repeat' (first | assumption | exact Blk.new' (by simp) _ _ | apply Blk.alloc | apply Blk.drew))
  obtain ⟨z_t, T_t, F_t⟩ := KT.open_
  clear hw1 KT
  rcases hr3 with rfl | rfl | rfl
  · have hp := HP0.out rfl
    go_wp2_with fail
    refine (c_AtPC w1 a).mono ?_
    rintro e w2 ⟨rfl, hl2, hc2, hb2⟩
    have HC := Lib.hid hc2; have HL := Lib.hid hl2
    have hB_w2 := hB_w1.next hb2
    clear hb2 hc2 hl2
    go_wp2_with fail
    go_ret
    have hz := hB_w1.size
    exact ⟨_, _, _, (· = w1.heap.size), rfl, enters_of Tryd.func60 (by kernel_rfl) rfl, by rw [hp]; exact pred_AtPC HL.out HC.out, fun b hb => by subst hb; exact ⟨hz, HL.out⟩, hB_w2⟩
  · have hp := HP1.out rfl
    go_wp2_with fail
    refine (c_Changed w1 a b).mono ?_
    rintro e w2 ⟨rfl, hl2, hc2, hd2, hb2⟩
    have HC := Lib.hid hc2; have HD := Lib.hid hd2; have HL := Lib.hid hl2
    have hB_w2 := hB_w1.next hb2
    clear hb2 hc2 hl2 hd2
    go_wp2_with fail
    go_ret
    have hz := hB_w1.size
    exact ⟨_, _, _, (fun x => x = w1.heap.size ∨ x = w1.heap.size + 1), rfl, enters_of Tryd.func59 (by kernel_rfl) rfl, by rw [hp]; exact pred_Changed HC.out HD.out, fun b hb => by have := HL.out; rcases hb with rfl | rfl <;> omega, hB_w2⟩
  · go_wp2_with fail
    go_ret
    exact ⟨_, _, _, (fun _ => False), rfl, enters_of Tryd.func20 (by kernel_rfl) rfl, HPO.out _, fun b hb => hb.elim, hB_w1.next (by repeat' (first | (with_reducible assumption) | (with_reducible exact Below.refl _ _) | (with_reducible refine Below.alloc ?_ ?_ _) | (with_reducible refine Bk.drewN_ ?_ _) | (with_reducible refine Below.drew ?_) | (with_reducible refine Below.setCell ?_ ?_ _) | go_size))⟩
end Go.Proofs.YteenmpjjaheggaaDoor

/- The walk of find: the search of layer 34, forward and backward. -/
set_option maxRecDepth 100000
set_option maxHeartbeats 8000000
set_option maxRecDepth 100000
set_option linter.unusedVariables false
set_option linter.unusedSimpArgs false
namespace Go.Proofs.YteenmpjjaheggaaDoor
open Go.RowKit Bk
theorem c_findFwd {w : World} {P : Pl} {A : Option Addr} {n cap : Nat} {im : Img} {M : Mach} {J j : Nat} (hX : VFx w P A n cap im) (hE : VEnv im M J) (hJ : j ≤ J) (hj : j ≤ 1000000) {g : FuncId} {fs lb : Array Value} {C : Nat → Prop} {p : Mach → Bool} (eg : Enters Tryd.prog g) (hp : PredM Tryd.prog g fs lb C p w) (hC : ∀ b, C b → b < w.heap.size ∧ ¬ P.O b) (most : Int) (hmo : I64 most) {N : Nat} {r : Option Nat} (hmJ : j + most.toNat ≤ J) (hm9 : most ≤ 1000000) (hF : FinF im.code M p most.toNat j N r) (hA : DAt w P im.code M j) :
    Calls Tryd.prog 45 #[.pointer (some ⟨P.b, 0, none⟩), .func (.func 42) #[.pointer (some ⟨P.b, 0, none⟩)] #[], .int .i64 most, .func (.func g) fs lb] w fun e w' => e = .returned (.bool r.isSome) ∧ DAt w' P im.code M (r.getD j) ∧ Fr P.O w w' := by
  have hmf : ∀ (fn : Fn) (first cap : Array Value) (w : World), (Instr.makeFunc fn first cap).run Tryd.prog w = .ok (.func fn first cap) w := fun _ _ _ _ => rfl; have hef := fun fn first cap w => run_eql_func fn first cap w; have hnn := fun w => run_eql_nil w
  have eg' : ∀ (args : Array Value) (w : World), (callFunc g args).run Tryd.prog w = .ok (.enter g args) w := eg
  unfold I64 at hmo
  obtain ⟨hNm, hlt, hst⟩ := hF
  have HX := Lib.hid hX; have HE := Lib.hid hE; have HA := Lib.hid hA; have HLT := Lib.hid hlt; have HST := Lib.hid hst; have HP := Lib.hid hp; have HC := Lib.hid hC
  have HRJ := Lib.hid hA.2
  obtain ⟨rs, hrs⟩ : ∃ rs, r.isSome = rs := ⟨_, rfl⟩
  obtain ⟨rj, hrj⟩ : ∃ rj, r.getD j = rj := ⟨_, rfl⟩
  rw [hrs, hrj]
  have HRS := Lib.hid hrs; have HRG := Lib.hid hrj
  clear hX hE hA hlt hst hp hC hrs hrj
  go_enter Tryd.func45, Tryd.ntmps45
  go_wp2_with fail
  refine (c_DTime HX.out HA.out).mono ?_
  rintro e w1 ⟨rfl, hb1⟩
  have HX1 := Lib.hid (HX.out.next hb1); have HA1 := Lib.hid (HA.out.next hb1); have HF1 := Lib.hid ((Fr.refl P.O w).next hb1)
  clear hb1
  go_wp2_with fail
  go_loopw [2] (fun v2 wr => ∃ i : Nat, i ≤ N ∧ v2 = .int .i64 (most - (i : Int)) ∧ DAt wr P im.code M (j + i) ∧ Fr P.O w wr) (fun v _ => (intOf v).toNat)
  case atStart => exact ⟨0, Nat.zero_le _, by simp, HA1.out, HF1.out⟩
  case round =>
    obtain ⟨i, hi, rfl, ha, hfr⟩ := hrel
    have HXi := Lib.hid (HX.out.fr hfr)
    have HAi := Lib.hid ha; have HFi := Lib.hid hfr
    clear ha hfr
    by_cases h1 : i < N
    · have q1 : 0 < most - (i : Int) := by omega
      obtain ⟨h0, hpn⟩ := HLT.out i h1
      have H0 := Lib.hid h0; have HPN := Lib.hid hpn
      clear h0 hpn
      go_wp2_with fail
      refine (c_DStepOk HXi.out HE.out (j := j + i) (by omega) (by omega) HAi.out H0.out).mono ?_
      rintro e w3 ⟨rfl, ha3, hf3⟩
      have HF3 := Lib.hid (HFi.out.trans hf3)
      have HX3 := Lib.hid (HXi.out.fr hf3)
      have HA3 := Lib.hid ha3
      clear ha3 hf3
      go_wp2_with fail
      refine (c_DMachine HX3.out HE.out (j := j + i + 1) (by omega) HA3.out).mono ?_
      rintro e w4 ⟨vmn, vsn, vcn, vin, von, svn, rfl, hO4, hb4⟩
      have HF4 := Lib.hid (HF3.out.next hb4)
      have HA4 := Lib.hid (HA3.out.next hb4)
      have hs := HP.out w4 (tr im.code M (j + i + 1)) vmn vsn vcn vin von svn _ (fun b o hc => HF4.out.cell (HC.out b hc).1 (HC.out b hc).2 o) (fun b hc => by have := (HC.out b hc).1; have := HF4.out.size; omega) hO4.mls (HE.out.bd (j + i + 1) (by omega))
      rw [HPN.out] at hs
      have HS := Lib.hid hs
      clear hs hO4 hb4
      go_wp2_with fail
      refine HS.out.mono ?_
      rintro e w5 ⟨rfl, hb5⟩
      have HF5 := Lib.hid (HF4.out.next hb5)
      have HA5 := Lib.hid (HA4.out.next hb5)
      clear hb5 HS
      go_wp2_with fail
      exact ⟨⟨i + 1, by omega, by go_num, HA5.out, HF5.out⟩, by simp [intOf]; omega⟩
    · obtain rfl : i = N := by omega
      rcases HST.out with ⟨h2, h3⟩ | ⟨h2, h3, h4⟩ | ⟨h2, h3, h4, h5⟩
      · subst h3
        have q1 : ¬ 0 < most - (i : Int) := by omega
        clear h2
        go_wp2_with fail
        refine (c_SeekOk HXi.out HE.out (j := j + i) (t := j) (by omega) (by omega) (by omega) (by omega) HRJ.out HAi.out).mono ?_
        rintro e w3 ⟨rfl, ha3, hf3⟩
        have HF3 := Lib.hid (HFi.out.trans hf3)
        have HA3 := Lib.hid ha3
        clear ha3 hf3
        go_wp2_with fail
        go_ret
        exact ⟨by rw [← HRS.out]; rfl, by rw [← HRG.out]; exact HA3.out, HF3.out⟩
      · subst h4
        have q1 : 0 < most - (i : Int) := by omega
        obtain ⟨ee, hee⟩ : ∃ ee, te im.code M (j + i) = ee := ⟨_, rfl⟩
        have hne : (ee == 0) = false := by rw [← hee]; simpa using h3
        have H3 := Lib.hid h3
        have hs := c_DStepErr HXi.out HE.out (j := j + i) (by omega) HAi.out H3.out
        rw [hee] at hs
        have HS := Lib.hid hs
        clear h2 h3 hs hee
        go_wp2_with fail
        refine HS.out.mono ?_
        rintro e w3 ⟨rfl, ha3, hf3⟩
        have HF3 := Lib.hid (HFi.out.trans hf3)
        have HX3 := Lib.hid (HXi.out.fr hf3)
        have HA3 := Lib.hid ha3
        clear ha3 hf3 HS
        go_wp2_with fail
        refine (c_SeekOk HX3.out HE.out (j := j + i) (t := j) (by omega) (by omega) (by omega) (by omega) HRJ.out HA3.out).mono ?_
        rintro e w4 ⟨rfl, ha4, hf4⟩
        have HF4 := Lib.hid (HF3.out.trans hf4)
        have HA4 := Lib.hid ha4
        clear ha4 hf4
        go_wp2_with fail
        go_ret
        exact ⟨by rw [← HRS.out]; rfl, by rw [← HRG.out]; exact HA4.out, HF4.out⟩
      · subst h5
        have q1 : 0 < most - (i : Int) := by omega
        have H0 := Lib.hid h3; have HPN := Lib.hid h4
        clear h3 h4
        go_wp2_with fail
        refine (c_DStepOk HXi.out HE.out (j := j + i) (by omega) (by omega) HAi.out H0.out).mono ?_
        rintro e w3 ⟨rfl, ha3, hf3⟩
        have HF3 := Lib.hid (HFi.out.trans hf3)
        have HX3 := Lib.hid (HXi.out.fr hf3)
        have HA3 := Lib.hid ha3
        clear ha3 hf3
        go_wp2_with fail
        refine (c_DMachine HX3.out HE.out (j := j + i + 1) (by omega) HA3.out).mono ?_
        rintro e w4 ⟨vmn, vsn, vcn, vin, von, svn, rfl, hO4, hb4⟩
        have HF4 := Lib.hid (HF3.out.next hb4)
        have HA4 := Lib.hid (HA3.out.next hb4)
        have hs := HP.out w4 (tr im.code M (j + i + 1)) vmn vsn vcn vin von svn _ (fun b o hc => HF4.out.cell (HC.out b hc).1 (HC.out b hc).2 o) (fun b hc => by have := (HC.out b hc).1; have := HF4.out.size; omega) hO4.mls (HE.out.bd (j + i + 1) (by omega))
        rw [HPN.out] at hs
        have HS := Lib.hid hs
        clear hs hO4 hb4
        go_wp2_with fail
        refine HS.out.mono ?_
        rintro e w5 ⟨rfl, hb5⟩
        have HF5 := Lib.hid (HF4.out.next hb5)
        have HA5 := Lib.hid (HA4.out.next hb5)
        clear hb5 HS
        go_wp2_with fail
        go_ret
        exact ⟨by rw [← HRS.out]; rfl, by rw [← HRG.out]; exact HA5.out, HF5.out⟩
theorem c_findBack {w : World} {P : Pl} {A : Option Addr} {n cap : Nat} {im : Img} {M : Mach} {J j : Nat} (hX : VFx w P A n cap im) (hE : VEnv im M J) (hJ : j ≤ J) (hj : j ≤ 1000000) {g : FuncId} {fs lb : Array Value} {C : Nat → Prop} {p : Mach → Bool} (eg : Enters Tryd.prog g) (hp : PredM Tryd.prog g fs lb C p w) (hC : ∀ b, C b → b < w.heap.size ∧ ¬ P.O b) (most : Int) (hmo : I64 most) {N : Nat} {r : Option Nat} (hm9 : most ≤ 1000000) (hF : FinB im.code M p most.toNat j N r) (hA : DAt w P im.code M j) :
    Calls Tryd.prog 45 #[.pointer (some ⟨P.b, 0, none⟩), .func (.func 47) #[.pointer (some ⟨P.b, 0, none⟩)] #[], .int .i64 most, .func (.func g) fs lb] w fun e w' => e = .returned (.bool r.isSome) ∧ DAt w' P im.code M (r.getD j) ∧ Fr P.O w w' := by
  have hmf : ∀ (fn : Fn) (first cap : Array Value) (w : World), (Instr.makeFunc fn first cap).run Tryd.prog w = .ok (.func fn first cap) w := fun _ _ _ _ => rfl; have hef := fun fn first cap w => run_eql_func fn first cap w; have hnn := fun w => run_eql_nil w
  have eg' : ∀ (args : Array Value) (w : World), (callFunc g args).run Tryd.prog w = .ok (.enter g args) w := eg
  unfold I64 at hmo
  obtain ⟨hNm, hNj, hlt, hst⟩ := hF
  have HX := Lib.hid hX; have HE := Lib.hid hE; have HA := Lib.hid hA; have HLT := Lib.hid hlt; have HST := Lib.hid hst; have HP := Lib.hid hp; have HC := Lib.hid hC
  have HRJ := Lib.hid hA.2
  obtain ⟨rs, hrs⟩ : ∃ rs, r.isSome = rs := ⟨_, rfl⟩
  obtain ⟨rj, hrj⟩ : ∃ rj, r.getD j = rj := ⟨_, rfl⟩
  rw [hrs, hrj]
  have HRS := Lib.hid hrs; have HRG := Lib.hid hrj
  clear hX hE hA hlt hst hp hC hrs hrj
  go_enter Tryd.func45, Tryd.ntmps45
  go_wp2_with fail
  refine (c_DTime HX.out HA.out).mono ?_
  rintro e w1 ⟨rfl, hb1⟩
  have HX1 := Lib.hid (HX.out.next hb1); have HA1 := Lib.hid (HA.out.next hb1); have HF1 := Lib.hid ((Fr.refl P.O w).next hb1)
  clear hb1
  go_wp2_with fail
  go_loopw [2] (fun v2 wr => ∃ (i q : Nat), i ≤ N ∧ v2 = .int .i64 (most - (i : Int)) ∧ q + i = j ∧ DAt wr P im.code M q ∧ Fr P.O w wr) (fun v _ => (intOf v).toNat)
  case atStart => exact ⟨0, j, Nat.zero_le _, by simp, rfl, HA1.out, HF1.out⟩
  case round =>
    obtain ⟨i, q, hi, rfl, hq, ha, hfr⟩ := hrel
    have HXi := Lib.hid (HX.out.fr hfr)
    have HAi := Lib.hid ha; have HFi := Lib.hid hfr
    clear ha hfr
    have hjb : j ≤ 1000000 := hj
    by_cases h1 : i < N
    · have q1 : 0 < most - (i : Int) := by omega
      obtain ⟨q', rfl⟩ : ∃ q', q = q' + 1 := ⟨q - 1, by omega⟩
      have hpn := HLT.out i h1
      rw [show j - i - 1 = q' by omega] at hpn
      have HPN := Lib.hid hpn
      have HQ := Lib.hid hq
      clear hpn hq
      go_wp2_with fail
      refine (c_DBackOk HXi.out HE.out (j := q') (by have := HQ.out; omega) (by have := HQ.out; omega) (by have := HQ.out; omega) HAi.out).mono ?_
      rintro e w3 ⟨rfl, ha3, hf3⟩
      have HF3 := Lib.hid (HFi.out.trans hf3)
      have HX3 := Lib.hid (HXi.out.fr hf3)
      have HA3 := Lib.hid ha3
      clear ha3 hf3
      go_wp2_with fail
      refine (c_DMachine HX3.out HE.out (j := q') (by have := HQ.out; omega) HA3.out).mono ?_
      rintro e w4 ⟨vmn, vsn, vcn, vin, von, svn, rfl, hO4, hb4⟩
      have HF4 := Lib.hid (HF3.out.next hb4)
      have HA4 := Lib.hid (HA3.out.next hb4)
      have hs := HP.out w4 (tr im.code M q') vmn vsn vcn vin von svn _ (fun b o hc => HF4.out.cell (HC.out b hc).1 (HC.out b hc).2 o) (fun b hc => by have := (HC.out b hc).1; have := HF4.out.size; omega) hO4.mls (HE.out.bd q' (by have := HQ.out; omega))
      rw [HPN.out] at hs
      have HS := Lib.hid hs
      clear hs hO4 hb4
      go_wp2_with fail
      refine HS.out.mono ?_
      rintro e w5 ⟨rfl, hb5⟩
      have HF5 := Lib.hid (HF4.out.next hb5)
      have HA5 := Lib.hid (HA4.out.next hb5)
      clear hb5 HS
      go_wp2_with fail
      exact ⟨⟨i + 1, q', by omega, by go_num, by have := HQ.out; omega, HA5.out, HF5.out⟩, by simp [intOf]; omega⟩
    · obtain rfl : i = N := by omega
      have HQ := Lib.hid hq
      rcases HST.out with ⟨h2, h3⟩ | ⟨h2, h3, h4⟩ | ⟨h2, h3, h4, h5⟩
      · subst h3
        have q1 : ¬ 0 < most - (i : Int) := by omega
        clear h2 hq
        go_wp2_with fail
        refine (c_SeekOk HXi.out HE.out (j := q) (t := j) (by have := HQ.out; omega) (by have := HQ.out; omega) (by omega) (by omega) HRJ.out HAi.out).mono ?_
        rintro e w3 ⟨rfl, ha3, hf3⟩
        have HF3 := Lib.hid (HFi.out.trans hf3)
        have HA3 := Lib.hid ha3
        clear ha3 hf3
        go_wp2_with fail
        go_ret
        exact ⟨by rw [← HRS.out]; rfl, by rw [← HRG.out]; exact HA3.out, HF3.out⟩
      · subst h4
        have q1 : 0 < most - (i : Int) := by omega
        obtain rfl : q = 0 := by omega
        clear h2 h3 hq
        go_wp2_with fail
        refine (c_DBack0 HXi.out HAi.out).mono ?_
        rintro e w3 ⟨rfl, hb3⟩
        have HF3 := Lib.hid (HFi.out.next hb3)
        have HX3 := Lib.hid (HXi.out.next hb3)
        have HA3 := Lib.hid (HAi.out.next hb3)
        clear hb3
        go_wp2_with fail
        refine (c_SeekOk HX3.out HE.out (j := 0) (t := j) (by omega) (by omega) (by omega) (by omega) HRJ.out HA3.out).mono ?_
        rintro e w4 ⟨rfl, ha4, hf4⟩
        have HF4 := Lib.hid (HF3.out.trans hf4)
        have HA4 := Lib.hid ha4
        clear ha4 hf4
        go_wp2_with fail
        go_ret
        exact ⟨by rw [← HRS.out]; rfl, by rw [← HRG.out]; exact HA4.out, HF4.out⟩
      · subst h5
        have q1 : 0 < most - (i : Int) := by omega
        obtain ⟨q', rfl⟩ : ∃ q', q = q' + 1 := ⟨q - 1, by omega⟩
        have hpn := h4
        have e9 : j - i - 1 = q' := by omega
        rw [e9] at hpn
        have HPN := Lib.hid hpn
        have HE9 := Lib.hid e9
        clear h3 h4 hq hpn e9
        go_wp2_with fail
        refine (c_DBackOk HXi.out HE.out (j := q') (by have := HQ.out; omega) (by have := HQ.out; omega) (by have := HQ.out; omega) HAi.out).mono ?_
        rintro e w3 ⟨rfl, ha3, hf3⟩
        have HF3 := Lib.hid (HFi.out.trans hf3)
        have HX3 := Lib.hid (HXi.out.fr hf3)
        have HA3 := Lib.hid ha3
        clear ha3 hf3
        go_wp2_with fail
        refine (c_DMachine HX3.out HE.out (j := q') (by have := HQ.out; omega) HA3.out).mono ?_
        rintro e w4 ⟨vmn, vsn, vcn, vin, von, svn, rfl, hO4, hb4⟩
        have HF4 := Lib.hid (HF3.out.next hb4)
        have HA4 := Lib.hid (HA3.out.next hb4)
        have hs := HP.out w4 (tr im.code M q') vmn vsn vcn vin von svn _ (fun b o hc => HF4.out.cell (HC.out b hc).1 (HC.out b hc).2 o) (fun b hc => by have := (HC.out b hc).1; have := HF4.out.size; omega) hO4.mls (HE.out.bd q' (by have := HQ.out; omega))
        rw [HPN.out] at hs
        have HS := Lib.hid hs
        clear hs hO4 hb4
        go_wp2_with fail
        refine HS.out.mono ?_
        rintro e w5 ⟨rfl, hb5⟩
        have HF5 := Lib.hid (HF4.out.next hb5)
        have HA5 := Lib.hid (HA4.out.next hb5)
        clear hb5 HS
        go_wp2_with fail
        go_ret
        exact ⟨by rw [← HRS.out]; rfl, by rw [← HRG.out, show (some (j - i - 1)).getD j = q' from HE9.out]; exact HA5.out, HF5.out⟩
theorem c_Next {w : World} {P : Pl} {A : Option Addr} {n cap : Nat} {im : Img} {M : Mach} {J j : Nat} (hX : VFx w P A n cap im) (hE : VEnv im M J) (hJ : j ≤ J) (hj : j ≤ 1000000) {g : FuncId} {fs lb : Array Value} {C : Nat → Prop} {p : Mach → Bool} (eg : Enters Tryd.prog g) (hp : PredM Tryd.prog g fs lb C p w) (hC : ∀ b, C b → b < w.heap.size ∧ ¬ P.O b) (most : Int) (hmo : I64 most) (hmJ : j + most.toNat ≤ J) (hm9 : most ≤ 1000000) (hA : DAt w P im.code M j) :
    Calls Tryd.prog 17 #[.pointer (some ⟨P.b, 0, none⟩), .int .i64 most, .func (.func g) fs lb] w fun e w' => e = .returned (.bool (findF im.code M p most.toNat j).isSome) ∧ DAt w' P im.code M ((findF im.code M p most.toNat j).getD j) ∧ Fr P.O w w' := by
  have hmf : ∀ (fn : Fn) (first cap : Array Value) (w : World), (Instr.makeFunc fn first cap).run Tryd.prog w = .ok (.func fn first cap) w := fun _ _ _ _ => rfl; have hef := fun fn first cap w => run_eql_func fn first cap w; have hnn := fun w => run_eql_nil w
  obtain ⟨N, hF⟩ := findF_fin im.code M p most.toNat j
  generalize findF im.code M p most.toNat j = r at *
  have hs := fun w' (hf : Fr P.O w w') => c_findFwd (hX.fr hf) hE hJ hj eg (hp.fr hf hC) (fun b hb => ⟨by have := (hC b hb).1; have := hf.size; omega, (hC b hb).2⟩) most hmo hmJ hm9 hF
  have HS := Lib.hid hs; have HA := Lib.hid hA
  clear hX hE hA hp hC hF hs hmJ
  go_enter Tryd.func17, Tryd.ntmps17
  go_wp2_with fail
  refine (HS.out _ (Fr.of (by go_grown)) (HA.out.next (by go_grown))).mono ?_
  rintro e w2 ⟨rfl, hA2, hf2⟩
  have HA2 := Lib.hid hA2; have HF2 := Lib.hid ((Fr.of (by go_grown) : Fr P.O w _).trans hf2)
  clear hA2 hf2
  go_wp2_with fail
  go_ret
  exact ⟨rfl, HA2.out, HF2.out⟩
theorem c_Prev {w : World} {P : Pl} {A : Option Addr} {n cap : Nat} {im : Img} {M : Mach} {J j : Nat} (hX : VFx w P A n cap im) (hE : VEnv im M J) (hJ : j ≤ J) (hj : j ≤ 1000000) {g : FuncId} {fs lb : Array Value} {C : Nat → Prop} {p : Mach → Bool} (eg : Enters Tryd.prog g) (hp : PredM Tryd.prog g fs lb C p w) (hC : ∀ b, C b → b < w.heap.size ∧ ¬ P.O b) (most : Int) (hmo : I64 most) (hm9 : most ≤ 1000000) (hA : DAt w P im.code M j) :
    Calls Tryd.prog 22 #[.pointer (some ⟨P.b, 0, none⟩), .int .i64 most, .func (.func g) fs lb] w fun e w' => e = .returned (.bool (findB im.code M p most.toNat j).isSome) ∧ DAt w' P im.code M ((findB im.code M p most.toNat j).getD j) ∧ Fr P.O w w' := by
  have hmf : ∀ (fn : Fn) (first cap : Array Value) (w : World), (Instr.makeFunc fn first cap).run Tryd.prog w = .ok (.func fn first cap) w := fun _ _ _ _ => rfl; have hef := fun fn first cap w => run_eql_func fn first cap w; have hnn := fun w => run_eql_nil w
  obtain ⟨N, hF⟩ := findB_fin im.code M p most.toNat j
  generalize findB im.code M p most.toNat j = r at *
  have hs := fun w' (hf : Fr P.O w w') => c_findBack (hX.fr hf) hE hJ hj eg (hp.fr hf hC) (fun b hb => ⟨by have := (hC b hb).1; have := hf.size; omega, (hC b hb).2⟩) most hmo hm9 hF
  have HS := Lib.hid hs; have HA := Lib.hid hA
  clear hX hE hA hp hC hF hs
  go_enter Tryd.func22, Tryd.ntmps22
  go_wp2_with fail
  refine (HS.out _ (Fr.of (by go_grown)) (HA.out.next (by go_grown))).mono ?_
  rintro e w2 ⟨rfl, hA2, hf2⟩
  have HA2 := Lib.hid hA2; have HF2 := Lib.hid ((Fr.of (by go_grown) : Fr P.O w _).trans hf2)
  clear hA2 hf2
  go_wp2_with fail
  go_ret
  exact ⟨rfl, HA2.out, HF2.out⟩
theorem c_NextNilD (w : World) (most : Int) (v : Value) : Calls Tryd.prog 17 #[.pointer none, .int .i64 most, v] w fun e w' => e = .returned (.bool false) ∧ Below w.heap.size w w' := by
  go_enter Tryd.func17, Tryd.ntmps17
  go_wp2_with fail
  go_ret
  exact ⟨rfl, by go_grown⟩
theorem c_PrevNilD (w : World) (most : Int) (v : Value) : Calls Tryd.prog 22 #[.pointer none, .int .i64 most, v] w fun e w' => e = .returned (.bool false) ∧ Below w.heap.size w w' := by
  go_enter Tryd.func22, Tryd.ntmps22
  go_wp2_with fail
  go_ret
  exact ⟨rfl, by go_grown⟩
theorem c_NextNilF (w : World) (b : Nat) (most : Int) : Calls Tryd.prog 17 #[.pointer (some ⟨b, 0, none⟩), .int .i64 most, .nilFunc] w fun e w' => e = .returned (.bool false) ∧ Below w.heap.size w w' := by
  have hmf : ∀ (fn : Fn) (first cap : Array Value) (w : World), (Instr.makeFunc fn first cap).run Tryd.prog w = .ok (.func fn first cap) w := fun _ _ _ _ => rfl; have hef := fun fn first cap w => run_eql_func fn first cap w; have hnn := fun w => run_eql_nil w
  go_enter Tryd.func17, Tryd.ntmps17
  go_wp2_with fail
  go_ret
  exact ⟨rfl, by go_grown⟩
theorem c_PrevNilF (w : World) (b : Nat) (most : Int) : Calls Tryd.prog 22 #[.pointer (some ⟨b, 0, none⟩), .int .i64 most, .nilFunc] w fun e w' => e = .returned (.bool false) ∧ Below w.heap.size w w' := by
  have hmf : ∀ (fn : Fn) (first cap : Array Value) (w : World), (Instr.makeFunc fn first cap).run Tryd.prog w = .ok (.func fn first cap) w := fun _ _ _ _ => rfl; have hef := fun fn first cap w => run_eql_func fn first cap w; have hnn := fun w => run_eql_nil w
  go_enter Tryd.func22, Tryd.ntmps22
  go_wp2_with fail
  go_ret
  exact ⟨rfl, by go_grown⟩
end Go.Proofs.YteenmpjjaheggaaDoor

/- The walks of Last and Bisect of layer 34. -/
set_option maxRecDepth 100000
set_option linter.unusedVariables false
set_option linter.unusedSimpArgs false
namespace Go.Proofs.YteenmpjjaheggaaDoor
open Go.RowKit Bk
end Go.Proofs.YteenmpjjaheggaaDoor
