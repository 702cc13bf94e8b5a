/- Several texts in one: Sim SimR. -/
import Derived.Test.YteenmpjjaheggaaDoorPp
import Derived.Test.YteenmpjjaheggaaDoorVmG
set_option linter.unusedVariables false
set_option linter.unusedSimpArgs false
/- Plain: the optimized program does the same, in no more steps. -/
set_option linter.unusedVariables false
namespace Bk
open Go.RowKit (wrap64)
def Mach.to_ (M : Mach) (p d : Int) (cs : List (Int × Bool)) : Mach := { M with pc := p, dir := d, calls := cs }
def ToB (p d : Int) (cs : List (Int × Bool)) (x y : Int × Mach) : Prop := x = (y.1, y.2.to_ p d cs)
theorem ToB.ite {p d : Int} {cs : List (Int × Bool)} {c : Prop} [Decidable c] {a b a' b' : Int × Mach} (h : ToB p d cs a b) (h' : ToB p d cs a' b') : ToB p d cs (if c then a else a') (if c then b else b') := by
  split <;> assumption
theorem exchange_to (M : Mach) (r a p d : Int) (cs : List (Int × Bool)) : ToB p d cs (exchange (M.to_ p d cs) r a) (exchange M r a) := by
  unfold exchange; exact ToB.ite rfl rfl
theorem shift_to (M : Mach) (r a p d : Int) (cs : List (Int × Bool)) : ToB p d cs (shift (M.to_ p d cs) r a) (shift M r a) := by
  unfold shift; exact ToB.ite rfl rfl
theorem swapS_to (M : Mach) (r a p d : Int) (cs : List (Int × Bool)) : ToB p d cs (swapS (M.to_ p d cs) r a) (swapS M r a) := by
  unfold swapS; exact ToB.ite rfl (ToB.ite rfl (ToB.ite rfl rfl))
theorem stack_to (M : Mach) (i : Ins) (p d : Int) (cs : List (Int × Bool)) : ToB p d cs (stack (M.to_ p d cs) i) (stack M i) := by
  unfold stack; exact ToB.ite rfl (ToB.ite rfl (ToB.ite (ToB.ite rfl rfl) (ToB.ite rfl (ToB.ite rfl (ToB.ite rfl rfl)))))
theorem transfer_to (M : Mach) (i : Ins) (p d : Int) (cs : List (Int × Bool)) : ToB p d cs (transfer (M.to_ p d cs) i) (transfer M i) := by
  unfold transfer; exact ToB.ite rfl (ToB.ite rfl (ToB.ite rfl (ToB.ite rfl (ToB.ite rfl (ToB.ite rfl rfl)))))
theorem exec_to (M : Mach) (i : Ins) (p d : Int) (cs : List (Int × Bool)) : exec (M.to_ p d cs) i = ((exec M i).1, (exec M i).2.to_ p d cs) := by
  show ToB p d cs (exec (M.to_ p d cs) i) (exec M i)
  unfold exec
  exact ToB.ite rfl (ToB.ite rfl (ToB.ite rfl (ToB.ite rfl (ToB.ite rfl (ToB.ite rfl (ToB.ite rfl (ToB.ite rfl (ToB.ite rfl (ToB.ite (ToB.ite rfl rfl) (ToB.ite (ToB.ite rfl rfl)
    (ToB.ite (exchange_to _ _ _ _ _ _) (ToB.ite (ToB.ite rfl (exchange_to _ _ _ _ _ _)) (ToB.ite (shift_to _ _ _ _ _ _) (ToB.ite (shift_to _ _ _ _ _ _) (ToB.ite (swapS_to _ _ _ _ _ _) (ToB.ite (stack_to _ _ _ _ _) (transfer_to _ _ _ _ _)))))))))))))))))
/-- A machine without its place. -/
def Mach.core (M : Mach) : Mach := M.to_ 0 1 []
theorem core_to (M : Mach) (p d : Int) (cs : List (Int × Bool)) : (M.to_ p d cs).core = M.core := rfl
theorem exec_core (M : Mach) (i : Ins) : exec M.core i = ((exec M i).1, (exec M i).2.core) := exec_to M i 0 1 []
theorem to_self (M : Mach) : M.to_ M.pc M.dir M.calls = M := rfl
theorem core_back {s s' : Mach} (h : s.core = s'.core) : s' = s.to_ s'.pc s'.dir s'.calls := by
  have h2 : s.core.to_ s'.pc s'.dir s'.calls = s'.core.to_ s'.pc s'.dir s'.calls := by rw [h]
  exact h2.symm
theorem exec_same {s s' : Mach} (h : s.core = s'.core) (i : Ins) : exec s' i = ((exec s i).1, (exec s i).2.to_ s'.pc s'.dir s'.calls) := by
  have := exec_to s i s'.pc s'.dir s'.calls
  rw [← core_back h] at this
  exact this
theorem MOk.core {M : Mach} (h : MOk M) : MOk M.core := ⟨h.rl, h.rr, h.mr, h.sr, h.ir, h.or_, h.sl, h.inl, h.outl, h.fp0, h.fp1, h.sb0, h.sb1, h.s1⟩

theorem desc_at (p : Nat) : ∀ (l : List Nat), l.Pairwise (· > ·) → p ∈ l → (∃ A, l = A ++ p :: l.filter (fun k => decide (k < p))) ∧ l.filter (fun k => decide (k < p + 1)) = p :: l.filter (fun k => decide (k < p))
  | [], _, h => absurd h (by simp)
  | x :: t, hs, h => by
    obtain ⟨h1, h2⟩ := List.pairwise_cons.1 hs
    by_cases e : p = x
    · subst e
      have ht : t.filter (fun k => decide (k < p)) = t := List.filter_eq_self.2 fun y hy => by have := h1 y hy; simp; omega
      have ht2 : t.filter (fun k => decide (k < p + 1)) = t := List.filter_eq_self.2 fun y hy => by have := h1 y hy; simp; omega
      rw [List.filter_cons_of_neg (by simp), List.filter_cons_of_pos (by simp), ht, ht2]
      exact ⟨⟨[], rfl⟩, rfl⟩
    · have hm : p ∈ t := (List.mem_cons.1 h).resolve_left e
      have hx := h1 p hm
      obtain ⟨⟨A, hA⟩, hB⟩ := desc_at p t h2 hm
      rw [List.filter_cons_of_neg (by simp; omega), List.filter_cons_of_neg (by simp; omega), hB]
      exact ⟨⟨x :: A, by rw [List.cons_append, ← hA]⟩, rfl⟩
/-- The kept instructions ahead of a position, the last one first. -/
def baseK (c : Prg) (p : Nat) : List Nat := (keepAt c c.length).filter fun k => decide (k < p)
/-- Where a position lies in the optimized code. -/
def kap (c : Prg) (p : Nat) : Nat := (baseK c p).length
/-- What waits to be undone at a position, the last one first. -/
def pendK (c : Prg) (p : Nat) : List Nat := (keepAt c p).take ((keepAt c p).length - kap c p)
theorem keep_split (c : Prg) : ∀ m p, p ≤ m → ∃ pend base R, keepAt c p = pend ++ base ∧ keepAt c m = R ++ base ∧ ∀ k ∈ R, p ≤ k
  | 0, p, h => by
    obtain rfl : p = 0 := by omega
    exact ⟨[], [], [], rfl, rfl, by simp⟩
  | m + 1, p, h => by
    rcases Nat.eq_or_lt_of_le h with rfl | h'
    · exact ⟨[], keepAt c (m + 1), [], rfl, rfl, by simp⟩
    · obtain ⟨pend, base, R, h1, h2, h3⟩ := keep_split c m p (by omega)
      rw [keepAt]
      cases hk : keepAt c m with
      | nil =>
        rw [hk] at h2
        obtain ⟨rfl, rfl⟩ := List.append_eq_nil_iff.1 h2.symm
        exact ⟨pend, [], [m], h1, rfl, by simp; omega⟩
      | cons k rest =>
        rw [hk] at h2
        simp only
        split
        · cases R with
          | nil =>
            simp only [List.nil_append] at h2
            subst h2
            exact ⟨pend ++ [k], rest, [], by rw [h1]; simp, rfl, by simp⟩
          | cons r R' =>
            simp only [List.cons_append] at h2
            injection h2 with _ h2
            exact ⟨pend, base, R', h1, h2, fun x hx => h3 x (List.mem_cons_of_mem _ hx)⟩
        · exact ⟨pend, base, m :: R, h1, by rw [h2]; rfl, fun x hx => (List.mem_cons.1 hx).elim (fun e => by omega) (h3 x)⟩
theorem keep_base (c : Prg) {p : Nat} (h : p ≤ c.length) : ∃ pend, keepAt c p = pend ++ baseK c p := by
  obtain ⟨pend, base, R, h1, h2, h3⟩ := keep_split c c.length p h
  have hb : baseK c p = base := by
    unfold baseK
    rw [h2, List.filter_append, List.filter_eq_nil_iff.2 (fun k hk => by have := h3 k hk; simp; omega), List.nil_append]
    exact List.filter_eq_self.2 fun k hk => by have := keepAt_lt c p k (by rw [h1]; simp [hk]); simpa using this
  rw [hb]; exact ⟨pend, h1⟩
theorem keep_pend (c : Prg) {p : Nat} (h : p ≤ c.length) : keepAt c p = pendK c p ++ baseK c p := by
  obtain ⟨pend, h1⟩ := keep_base c h
  have : pendK c p = pend := by
    unfold pendK kap
    rw [h1]; simp
  rw [this]; exact h1
theorem pend_uniq {c : Prg} {p : Nat} (h : p ≤ c.length) {X : List Nat} (hx : keepAt c p = X ++ baseK c p) : pendK c p = X := by
  rw [keep_pend c h] at hx
  exact List.append_cancel_right hx
theorem keepAt_succ (c : Prg) (p : Nat) : keepAt c (p + 1) = p :: keepAt c p ∨ ∃ k rest, keepAt c p = k :: rest ∧ keepAt c (p + 1) = rest ∧ cancels (c.getD k default) (c.getD p default) = true := by
  rw [keepAt]
  cases hk : keepAt c p with
  | nil => exact .inl rfl
  | cons k rest =>
    simp only
    split
    · rename_i hc; exact .inr ⟨k, rest, rfl, rfl, hc⟩
    · exact .inl rfl
theorem kept_step {c : Prg} {p : Nat} (h : p < c.length) (hk : p ∈ keepAt c c.length) : pendK c p = [] ∧ pendK c (p + 1) = [] ∧ kap c (p + 1) = kap c p + 1 := by
  obtain ⟨_, hb⟩ := desc_at p _ (keepAt_sorted c c.length) hk
  have hb : baseK c (p + 1) = p :: baseK c p := hb
  have h1 := keep_pend c (show p + 1 ≤ c.length from h)
  have hno : p ∉ keepAt c p := fun hm => by have := keepAt_lt c p p hm; omega
  rw [hb] at h1
  have hin : p ∈ keepAt c (p + 1) := by rw [h1]; simp
  rcases keepAt_succ c p with e | ⟨k, rest, e1, e2, _⟩
  · rw [e] at h1
    cases hp : pendK c (p + 1) with
    | nil =>
      rw [hp, List.nil_append] at h1
      injection h1 with _ h1
      exact ⟨pend_uniq (by omega) (X := []) (by rw [h1]; rfl), rfl, by unfold kap; rw [hb]; rfl⟩
    | cons x t =>
      rw [hp, List.cons_append] at h1
      injection h1 with _ h1
      exact absurd (by rw [h1]; simp) hno
  · rw [e2] at hin
    exact absurd (by rw [e1]; simp [hin]) hno
theorem gone_step {c : Prg} {p : Nat} (h : p < c.length) (hk : p ∉ keepAt c c.length) :
    kap c (p + 1) = kap c p ∧ (pendK c (p + 1) = p :: pendK c p ∨ ∃ j, j < p ∧ pendK c p = j :: pendK c (p + 1) ∧ cancels (c.getD j default) (c.getD p default) = true) := by
  have hb : baseK c (p + 1) = baseK c p := by
    unfold baseK
    refine List.filter_congr fun k hm => ?_
    have hne : k ≠ p := fun e => hk (e ▸ hm)
    rw [decide_eq_decide]; omega
  refine ⟨by unfold kap; rw [hb], ?_⟩
  rcases keepAt_succ c p with e | ⟨k, rest, e1, e2, e3⟩
  · exact .inl (pend_uniq h (by rw [e, keep_pend c (p := p) (by omega), hb]; rfl))
  · refine .inr ⟨k, keepAt_lt c p k (by rw [e1]; simp), ?_, e3⟩
    exact pend_uniq (by omega) (by rw [e1, ← e2, keep_pend c (p := p + 1) h, hb]; rfl)
theorem kept_idx {c : Prg} {p : Nat} (hk : p ∈ keepAt c c.length) : kap c p < (kept c).length ∧ (kept c).getD (kap c p) 0 = p ∧ keptF c (kap c p) = p := by
  obtain ⟨⟨A, hA⟩, _⟩ := desc_at p _ (keepAt_sorted c c.length) hk
  have hA : keepAt c c.length = A ++ p :: baseK c p := hA
  have e : kept c = (baseK c p).reverse ++ p :: A.reverse := by unfold kept; rw [hA]; simp
  have h1 : kap c p < (kept c).length := by rw [e]; simp [kap]
  have h2 : (kept c).getD (kap c p) 0 = p := by
    rw [e, List.getD_eq_getElem?_getD, List.getElem?_append_right (by simp [kap])]; simp [kap]
  exact ⟨h1, h2, by unfold keptF; rw [if_pos h1, h2]⟩
theorem ctl_kept {c : Prg} {t : Nat} (ht : t < c.length) (hc : ctl (c.getD t default) = true) : t ∈ keepAt c c.length := by
  obtain ⟨h1, h2⟩ := kept_ctl ht hc
  have hm : t ∈ kept c := by
    rw [← h2, List.getD_eq_getElem?_getD, List.getElem?_eq_getElem h1]
    exact List.getElem_mem h1
  exact List.mem_reverse.1 hm
theorem keptF_mem {c : Prg} {j : Nat} (h : j < (kept c).length) : keptF c j ∈ keepAt c c.length ∧ keptF c j < c.length := by
  unfold keptF
  rw [if_pos h]
  refine ⟨?_, kept_at c j h⟩
  rw [List.getD_eq_getElem?_getD, List.getElem?_eq_getElem h]
  exact List.mem_reverse.1 (List.getElem_mem h)
theorem kap_keptF {c : Prg} {j : Nat} (h : j < (kept c).length) : kap c (keptF c j) = j := by
  have h1 := (kept_idx (keptF_mem h).1).2.2
  rcases Nat.lt_trichotomy (kap c (keptF c j)) j with e | e | e
  · have := keptF_mono c _ _ e; omega
  · exact e
  · have := keptF_mono c _ _ e; omega
theorem kap_end (c : Prg) : kap c c.length = (optCode c).length ∧ pendK c c.length = [] := by
  have hb : baseK c c.length = keepAt c c.length := List.filter_eq_self.2 fun k hk => by simpa using keepAt_lt c _ k hk
  refine ⟨?_, pend_uniq (Nat.le_refl _) (X := []) (by rw [hb]; rfl)⟩
  unfold kap
  rw [hb, optCode_length]; simp [kept]
theorem kap_zero (c : Prg) : kap c 0 = 0 ∧ pendK c 0 = [] := by
  refine ⟨?_, by simp [pendK, keepAt]⟩
  unfold kap baseK
  rw [List.filter_eq_nil_iff.2 (by simp)]; rfl
/-- One machine comes from another by instructions that wait to be undone. -/
def Pend (c : Prg) (N : Mach) : List Nat → Mach → Prop
  | [], M => M = N
  | k :: r, M => ∃ X, Pend c N r X ∧ MOk X ∧ straightB (c.getD k default).op = true ∧ (c.getD k default).valid = true ∧ exec X (c.getD k default) = (0, M)
def mapC (c : Prg) (a : Int × Bool) : Int × Bool := ((kap c a.1.toNat : Nat), a.2)
structure Rel (c : Prg) (s s' : Mach) : Prop where
  p0 : 0 ≤ s.pc
  p1 : s.pc ≤ c.length
  pc : s'.pc = kap c s.pc.toNat
  dir : s'.dir = s.dir
  cs : s'.calls = s.calls.map (mapC c)
  ct : ∀ a ∈ s.calls, 0 ≤ a.1 ∧ a.1.toNat < c.length ∧ ctl (c.getD a.1.toNat default) = true
  pd : Pend c s'.core (pendK c s.pc.toNat) s.core
theorem behind_1 (i : Int) : behind i 1 = i + 1 := rfl
theorem behind_n (i : Int) : behind i (-1) = i := rfl
theorem rel_at {c : Prg} {s s' : Mach} (t : Nat) (ht : t < c.length) (hk : t ∈ keepAt c c.length) (hd : s.dir = 1 ∨ s.dir = -1) (hp : s.pc = behind t s.dir) (hp' : s'.pc = behind (kap c t) s.dir) (he : s'.dir = s.dir)
    (cs : s'.calls = s.calls.map (mapC c)) (ct : ∀ a ∈ s.calls, 0 ≤ a.1 ∧ a.1.toNat < c.length ∧ ctl (c.getD a.1.toNat default) = true) (hc : s.core = s'.core) : Rel c s s' := by
  obtain ⟨k1, k2, k3⟩ := kept_step ht hk
  rcases hd with e | e
  · rw [e, behind_1] at hp hp'
    have e1 : s.pc.toNat = t + 1 := by omega
    exact ⟨by omega, by omega, by rw [hp', e1, k3]; omega, he, cs, ct, by rw [e1, k2]; exact hc⟩
  · rw [e, behind_n] at hp hp'
    have e1 : s.pc.toNat = t := by omega
    exact ⟨by omega, by omega, by rw [hp', e1], he, cs, ct, by rw [e1, k1]; exact hc⟩
theorem holds_re (M : Mach) (f : Int → Int) (x : Ins) : holds M (re f x) = holds M x := by
  unfold holds
  rw [re_op]
  by_cases h1 : x.op = 23 ∨ x.op = 26
  · rw [if_pos h1, if_pos h1]
    have ea : (re f x).a = x.a := by
      unfold re; split
      · show retA x.op x.a _ = x.a; unfold retA; rw [if_neg (by omega)]
      · rfl
    rw [ea]
  · rw [if_neg h1, if_neg h1]
    by_cases h2 : x.op = 24 ∨ x.op = 27
    · rw [if_pos h2, if_pos h2]
      have ea : (re f x).a = x.a := by
        unfold re; split
        · show retA x.op x.a _ = x.a; unfold retA; rw [if_neg (by omega)]
        · rfl
      rw [ea]
    · rw [if_neg h2, if_neg h2]
theorem holds_core {s s' : Mach} (h : s.core = s'.core) (x : Ins) : holds s' x = holds s x := by
  rw [core_back h]; rfl
theorem opt_at {c : Prg} {k : Nat} (hk : k ∈ keepAt c c.length) : (optCode c).getD (kap c k) default = re (fun t => idxA (kept c) (kept c).length t.toNat) (c.getD k default) := by
  obtain ⟨h1, h2, _⟩ := kept_idx hk
  rw [optCode_get c _ h1, h2]; rfl
theorem ctl_of_op {c : Prg} {k : Nat} (h : 22 ≤ (c.getD k default).op ∧ (c.getD k default).op ≤ 27 ∨ 30 ≤ (c.getD k default).op) : ctl (c.getD k default) = true := by
  unfold ctl ctlB; simp only [decide_eq_true_eq]; omega
theorem ctl_false {c : Prg} (hw : CodeWf c) {k : Nat} (hk : k < c.length) (h : ctlB (c.getD k default).op = false) : straightB (c.getD k default).op = true := by
  have h0 := hw.op0' k hk
  have h := of_decide_eq_false h
  unfold straightB; rw [decide_eq_true_eq]; omega
theorem nextAt_pos {s : Mach} (hd : s.dir = 1 ∨ s.dir = -1) {k : Nat} (hk : nextAt s = k) : (s.dir = 1 ∧ s.pc = k) ∨ (s.dir = -1 ∧ s.pc = (k : Int) + 1) := by
  unfold nextAt at hk
  rcases hd with e | e
  · rw [e, if_neg (by decide)] at hk; exact .inl ⟨e, hk⟩
  · rw [e, if_pos (by decide)] at hk; exact .inr ⟨e, by omega⟩
/-- A step of an instruction that is not one of control. -/
theorem straight_step {c : Prg} {s : Mach} {k : Nat} (hk : nextAt s = k) (hn : k < c.length) (hs : straightB (c.getD k default).op = true) (hv : (c.getD k default).valid = true) :
    step c s = (let x := exec s (if s.dir < 0 then (c.getD k default).inverse else c.getD k default)
        if x.1 = 0 then (0, { x.2 with pc := x.2.pc + x.2.dir }) else (x.1, s)) := by
  have hs' := of_decide_eq_true hs
  have hj : ¬ (jumpB (c.getD k default).op = true ∨ landB (c.getD k default).op = true) := by rw [ctl_iff]; omega
  rw [step_in k hk hn (by omega) hv, if_neg (by omega), if_neg (by omega), if_neg hj]
theorem straight_ok {c : Prg} {s s1 : Mach} {k : Nat} (hk : nextAt s = k) (hn : k < c.length) (hs : straightB (c.getD k default).op = true) (hv : (c.getD k default).valid = true) (h : step c s = (0, s1)) :
    ∃ x, exec s (if s.dir < 0 then (c.getD k default).inverse else c.getD k default) = (0, x) ∧ s1 = x.to_ (s.pc + s.dir) s.dir s.calls := by
  rw [straight_step hk hn hs hv] at h
  simp only at h
  obtain ⟨k1, k2, k3, _⟩ := exec_keeps s (if s.dir < 0 then (c.getD k default).inverse else c.getD k default)
  generalize exec s (if s.dir < 0 then (c.getD k default).inverse else c.getD k default) = x at *
  obtain ⟨e, x⟩ := x
  dsimp only at h k1 k2 k3 ⊢
  split at h
  · rename_i he
    injection h with _ h
    refine ⟨x, by rw [he], ?_⟩
    rw [← h]
    obtain ⟨pc, dir, r, m, st, calls, fp, sb, inp, out⟩ := x
    dsimp only at k1 k2 k3
    subst k1 k2 k3
    rfl
  · rename_i he
    injection h with h _
    exact absurd h he
section
variable {im : Img} (hv : im.check.2 = 0) (hw : CodeWf im.code)
include hv hw
/-- Where the instruction is not kept, the optimized program waits. -/
theorem sim_gone {s s' s1 : Mach} (hR : Rel im.code s s') (hf : Fit im s) {k : Nat} (hk : nextAt s = k) (hn : k < im.code.length) (hval : (im.code.getD k default).valid = true) (hg : k ∉ keepAt im.code im.code.length) (h : step im.code s = (0, s1)) :
    Rel im.code s1 s' := by
  have hv_ := hv; clear hv_
  have hc : ctlB (im.code.getD k default).op = false := by
    cases h2 : ctlB (im.code.getD k default).op
    · rfl
    · exact absurd (ctl_kept hn h2) hg
  have hs := ctl_false hw hn hc
  obtain ⟨x, hx, rfl⟩ := straight_ok hk hn hs hval h
  obtain ⟨g1, g2⟩ := gone_step hn hg
  have hxc : exec s.core (if s.dir < 0 then (im.code.getD k default).inverse else im.code.getD k default) = (0, x.core) := by rw [exec_core, hx]
  have hok := hf.ok.core
  have hpd := hR.pd
  have hpc := hR.pc
  have mk : ∀ q : Nat, q ≤ im.code.length → s.pc + s.dir = (q : Int) → kap im.code q = kap im.code s.pc.toNat → Pend im.code s'.core (pendK im.code q) x.core → Rel im.code (x.to_ (s.pc + s.dir) s.dir s.calls) s' := by
    intro q hq e ek hp
    refine ⟨by show 0 ≤ s.pc + s.dir; omega, by show s.pc + s.dir ≤ _; omega, ?_, hR.dir, hR.cs, hR.ct, ?_⟩
    · show s'.pc = kap im.code (s.pc + s.dir).toNat
      rw [e, Int.toNat_natCast, ek]; exact hpc
    · show Pend im.code s'.core (pendK im.code (s.pc + s.dir).toNat) x.core
      rw [e, Int.toNat_natCast]; exact hp
  rcases nextAt_pos hf.d hk with ⟨e1, e2⟩ | ⟨e1, e2⟩
  · rw [e1, if_neg (by decide)] at hxc
    have ep : s.pc.toNat = k := by omega
    rw [ep] at hpd
    refine mk (k + 1) hn (by omega) (by rw [g1, ep]) ?_
    rcases g2 with g2 | ⟨j, hj, g2, g3⟩
    · rw [g2]; exact ⟨s.core, hpd, hok, hs, hval, hxc⟩
    · rw [g2] at hpd
      obtain ⟨X, p1, p2, p3, p4, p5⟩ := hpd
      have hu := (exec_undo p2 p3 p4 p5).2
      obtain ⟨q1, q2, q3⟩ := cancels_iff.1 g3
      have hi : im.code.getD k default = (im.code.getD j default).inverse := by
        rw [q3, rinv_eq _ q2]; rfl
      rw [hi, hu] at hxc
      injection hxc with _ hxc
      rw [← hxc]; exact p1
  · rw [e1, if_pos (by decide)] at hxc
    have ep : s.pc.toNat = k + 1 := by omega
    rw [ep] at hpd
    refine mk k (by omega) (by omega) (by rw [ep, g1]) ?_
    rcases g2 with g2 | ⟨j, hj, g2, g3⟩
    · rw [g2] at hpd
      obtain ⟨X, p1, p2, p3, p4, p5⟩ := hpd
      have hu := (exec_undo p2 p3 p4 p5).2
      rw [hu] at hxc
      injection hxc with _ hxc
      rw [← hxc]; exact p1
    · rw [g2]
      obtain ⟨q1, q2, q3⟩ := cancels_iff.1 g3
      have hi : (im.code.getD k default).inverse = im.code.getD j default := by
        rw [q3, rinv_eq _ q2]
        show ((im.code.getD j default).inverse).inverse = _
        rw [inverse_inverse]
      rw [hi] at hxc
      exact ⟨s.core, hpd, hok, ctl_false hw (by omega) q2, q1, hxc⟩
/-- Where it is kept, both execute it. -/
theorem sim_kept {s s' s1 : Mach} (hR : Rel im.code s s') (hf : Fit im s) {k : Nat} (hk : nextAt s = k) (hn : k < im.code.length) (h34 : (im.code.getD k default).op ≠ 34) (hval : (im.code.getD k default).valid = true) (hg : k ∈ keepAt im.code im.code.length) (h : step im.code s = (0, s1)) :
    ∃ s1', Rel im.code s1 s1' ∧ step (optCode im.code) s' = (0, s1') ∧ halt (optCode im.code) s' = false := by
  have E := opt_emb hv hw
  obtain ⟨i1, i2, i3⟩ := kept_idx hg
  obtain ⟨t1, t2, t3⟩ := kept_step hn hg
  have hat := opt_at hg
  obtain ⟨j, hj⟩ : ∃ j, kap im.code k = j := ⟨_, rfl⟩
  rw [hj] at i1 i2 i3 t3 hat
  have hjl : j < (optCode im.code).length := by rw [optCode_length]; exact i1
  have hop : ((optCode im.code).getD j default).op = (im.code.getD k default).op := by rw [← i3]; exact (E.op j hjl).symm
  have hva : ((optCode im.code).getD j default).valid = true := by rw [← E.valid j hjl, i3]; exact hval
  have hd := hf.d
  have hpos := nextAt_pos hd hk
  have hcore : s.core = s'.core := by
    have := hR.pd
    rcases hpos with ⟨e1, e2⟩ | ⟨e1, e2⟩
    · rw [show s.pc.toNat = k by omega, t1] at this; exact this
    · rw [show s.pc.toNat = k + 1 by omega, t2] at this; exact this
  have hpos' : (s.dir = 1 ∧ s'.pc = j) ∨ (s.dir = -1 ∧ s'.pc = (j : Int) + 1) := by
    rcases hpos with ⟨e1, e2⟩ | ⟨e1, e2⟩
    · exact .inl ⟨e1, by rw [hR.pc, show s.pc.toNat = k by omega, hj]⟩
    · exact .inr ⟨e1, by rw [hR.pc, show s.pc.toNat = k + 1 by omega, t3]; omega⟩
  have hk' : nextAt s' = j := by
    unfold nextAt
    rw [hR.dir]
    rcases hpos' with ⟨e1, e2⟩ | ⟨e1, e2⟩
    · rw [e1, if_neg (by decide), e2]
    · rw [e1, if_pos (by decide), e2]; omega
  have hhalt : halt (optCode im.code) s' = false := by
    unfold halt
    rw [hR.dir]
    rcases hpos' with ⟨e1, e2⟩ | ⟨e1, e2⟩
    · rw [e2, Int.toNat_natCast, hop, decide_eq_false h34, Bool.or_false, decide_eq_false (p := (j : Int) = (optCode im.code).length) (by omega)]; simp
    · rw [e1]; simp
  have hcall : s'.calls.length = s.calls.length := by rw [hR.cs]; simp
  have hop2 : ∀ q : Int, ((optCode im.code).getD j default).op = q ↔ (im.code.getD k default).op = q := fun q => by rw [hop]
  by_cases hst : straightB (im.code.getD k default).op = true
  · -- no control
    obtain ⟨x, hx, rfl⟩ := straight_ok hk hn hst hval h
    have hs' := of_decide_eq_true hst
    have hsame : (optCode im.code).getD j default = im.code.getD k default := by
      rw [hat]; unfold re
      rw [if_neg (by rw [tgt_ops, decide_eq_true_eq]; omega)]
    have hx' := exec_same hcore (if s.dir < 0 then (im.code.getD k default).inverse else im.code.getD k default)
    rw [hx] at hx'
    dsimp only at hx'
    refine ⟨x.to_ (s'.pc + s'.dir) s'.dir s'.calls, ?_, ?_, hhalt⟩
    · have hp : s.pc + s.dir = behind k s.dir := by
        rcases hpos with ⟨e1, e2⟩ | ⟨e1, e2⟩
        · rw [e1, behind_1]; omega
        · rw [e1, behind_n]; omega
      have hp' : s'.pc + s'.dir = behind j s.dir := by
        rw [hR.dir]
        rcases hpos' with ⟨e1, e2⟩ | ⟨e1, e2⟩
        · rw [e1, behind_1]; omega
        · rw [e1, behind_n]; omega
      exact rel_at k hn hg hd hp (by rw [hj]; exact hp') hR.dir hR.cs hR.ct rfl
    · rw [straight_step hk' hjl (by rw [hsame]; exact hst) hva, hsame, hR.dir, hx']
      simp only [if_true]
      show (0, x.to_ (s'.pc + s'.dir) s'.dir s'.calls) = _
      rw [hR.dir]
  have hno : 22 ≤ (im.code.getD k default).op ∧ (im.code.getD k default).op ≤ 27 ∨ 30 ≤ (im.code.getD k default).op := by
    have h0 := hw.op0' k hn
    have := hst
    unfold straightB at this
    rw [decide_eq_true_eq] at this
    omega
  rw [step_in k hk hn h34 hval] at h
  rw [step_in j hk' hjl (by rw [hop]; exact h34) hva]
  -- targets
  have htg : ∀ q : Nat, q ∈ keepAt im.code im.code.length → tgt (im.code.getD q default) = true → ∃ t, t < (kept im.code).length ∧ ((optCode im.code).getD (kap im.code q) default).target.1 = (t : Nat) ∧ (im.code.getD q default).target.1 = (keptF im.code t : Nat) := by
    intro q hq ht
    obtain ⟨q1, q2, q3⟩ := kept_idx hq
    have hql : kap im.code q < (optCode im.code).length := by rw [optCode_length]; exact q1
    obtain ⟨t, u1, u2, u3⟩ := E.hit (kap im.code q) hql (by rw [← E.tgt _ hql, q3]; exact ht)
    rw [q3] at u3
    exact ⟨t, by rw [← optCode_length]; exact u1, u2, u3⟩
  by_cases h30 : (im.code.getD k default).op = 30 ∨ (im.code.getD k default).op = 31
  · -- a call
    rw [if_pos h30] at h
    rw [if_pos (by rw [hop]; exact h30)]
    have tg : ∀ x : Ins, x.op = 30 ∨ x.op = 31 → x.target = (x.a, true) := fun x hx => by unfold Ins.target targetP; rw [if_pos (by omega)]
    obtain ⟨t, u1, u2, u3⟩ := htg k hg (by unfold tgt; rw [tg _ h30])
    rw [hj, tg _ (by rw [hop]; exact h30)] at u2
    rw [tg _ h30] at u3
    dsimp only at u2 u3
    unfold enter at h ⊢
    rw [u3] at h
    rw [u2, hop, hcall, hR.dir]
    obtain ⟨pa1, pa2⟩ := E.partner_at (j := t) (by rw [optCode_length]; exact u1)
    rw [pa1] at h
    by_cases hp : (partner (optCode im.code) t).2 = false
    · rw [if_pos hp] at h; cases h
    rw [if_neg hp] at h ⊢
    obtain ⟨u, v1, v2, v3⟩ := pa2 (by simpa using hp)
    rw [v3] at h
    rw [v2]
    by_cases hl : 100 ≤ s.calls.length
    · rw [if_pos hl] at h; cases h
    rw [if_neg hl] at h ⊢
    simp only at h ⊢
    injection h with _ h
    obtain ⟨mt1, mt2⟩ := keptF_mem u1
    obtain ⟨mu1, mu2⟩ := keptF_mem (c := im.code) (j := u) (by rw [← optCode_length]; exact v1)
    have kt := kap_keptF u1
    have ku := kap_keptF (c := im.code) (j := u) (by rw [← optCode_length]; exact v1)
    have hct : ∀ a ∈ s.calls ++ [((k : Int), decide ((im.code.getD k default).op = 31))], 0 ≤ a.1 ∧ a.1.toNat < im.code.length ∧ ctl (im.code.getD a.1.toNat default) = true := by
      intro a ha
      rcases List.mem_append.1 ha with ha | ha
      · exact hR.ct a ha
      · simp at ha; subst ha
        exact ⟨by omega, by simpa using hn, ctl_of_op (c := im.code) (k := k) (by omega)⟩
    refine ⟨_, ?_, rfl, hhalt⟩
    subst h
    have hd2 : (if decide ((im.code.getD k default).op = 31) = true then -s.dir else s.dir) = 1 ∨ (if decide ((im.code.getD k default).op = 31) = true then -s.dir else s.dir) = -1 := by
      split <;> rcases hd with e | e <;> rw [e] <;> simp
    have hcs : s'.calls ++ [((j : Int), decide ((im.code.getD k default).op = 31))] = (s.calls ++ [((k : Int), decide ((im.code.getD k default).op = 31))]).map (mapC im.code) := by
      rw [List.map_append, hR.cs]
      simp [mapC, hj]
    generalize (if decide ((im.code.getD k default).op = 31) = true then -s.dir else s.dir) = d at *
    rcases hd2 with rfl | rfl
    · exact rel_at (keptF im.code t) mt2 mt1 (.inl rfl) (by rw [behind_1]; rfl) (by rw [behind_1, kt]; rfl) rfl hcs hct hcore
    · exact rel_at (keptF im.code u) mu2 mu1 (.inr rfl) (by rw [behind_n]; rfl) (by rw [behind_n, ku]; rfl) rfl hcs hct hcore
  rw [if_neg h30] at h
  rw [if_neg (by rw [hop]; exact h30)]
  by_cases h32 : (im.code.getD k default).op = 32 ∨ (im.code.getD k default).op = 33
  · -- a return
    rw [if_pos h32] at h
    rw [if_pos (by rw [hop]; exact h32)]
    have tg : ∀ x : Ins, x.op = 30 ∨ x.op = 31 ∨ x.op = 32 ∨ x.op = 33 → x.target = (x.a, true) := fun x hx => by unfold Ins.target targetP; rw [if_pos (by omega)]
    obtain ⟨t, u1, u2, u3⟩ := htg k hg (by unfold tgt; rw [tg _ (by omega)])
    rw [hj, tg _ (by rw [hop]; omega)] at u2
    rw [tg _ (by omega)] at u3
    dsimp only at u2 u3
    obtain ⟨st, hst1, hst2, hst3⟩ : ∃ st, st < (kept im.code).length ∧ (if (im.code.getD k default).op = 33 then (im.code.getD k default).a else (k : Int)) = (keptF im.code st : Nat) ∧ (if ((optCode im.code).getD j default).op = 33 then ((optCode im.code).getD j default).a else (j : Int)) = (st : Nat) := by
      rw [hop]
      by_cases h33 : (im.code.getD k default).op = 33
      · exact ⟨t, u1, by rw [if_pos h33, u3], by rw [if_pos h33, u2]⟩
      · exact ⟨j, i1, by rw [if_neg h33, i3], by rw [if_neg h33]⟩
    unfold leave at h ⊢
    simp only at h ⊢
    rw [hst2] at h
    rw [hst3, hop, hcall, hR.dir]
    by_cases hq : decide ((im.code.getD k default).op = 33) ≠ decide (s.dir > 0) ∨ s.calls.length = 0
    · rw [if_pos hq] at h; cases h
    rw [if_neg hq] at h ⊢
    have hne : s.calls ≠ [] := fun e => hq (.inr (by rw [e]; rfl))
    obtain ⟨cs, a, hca⟩ : ∃ cs a, s.calls = cs ++ [a] := ⟨s.calls.dropLast, s.calls.getLast hne, (List.dropLast_concat_getLast hne).symm⟩
    have hl1 : s.calls.getLastD (0, false) = a := by rw [hca]; simp
    have hl2 : s'.calls.getLastD (0, false) = mapC im.code a := by rw [hR.cs, hca, List.map_append]; simp
    have hdl : s.calls.dropLast = cs := by rw [hca]; simp
    have hdl' : s'.calls.dropLast = cs.map (mapC im.code) := by rw [hR.cs, hca, List.map_append]; simp
    rw [hl1, hdl] at h
    rw [hl2, hdl']
    obtain ⟨a0, a1, a2⟩ := hR.ct a (by rw [hca]; simp)
    obtain ⟨q, hq1⟩ := Int.eq_ofNat_of_zero_le a0
    obtain ⟨ai, ab⟩ := a
    dsimp only at hq1 a0 a1 a2 h
    subst hq1
    rw [Int.toNat_natCast] at a1 a2 h
    have mq := ctl_kept a1 a2
    have hm : mapC im.code ((q : Int), ab) = (((kap im.code q : Nat) : Int), ab) := by unfold mapC; simp
    rw [hm]
    dsimp only
    rw [Int.toNat_natCast]
    by_cases hcl : im.code.getD q default ≠ ⟨if ab = true then 31 else 30, (keptF im.code st : Nat), 0, 0, 0⟩
    · rw [if_pos hcl] at h; cases h
    have hcl := Decidable.not_not.1 hcl
    rw [if_neg (by rw [hcl]; simp)] at h
    have hcl' : (optCode im.code).getD (kap im.code q) default = ⟨if ab = true then 31 else 30, (st : Nat), 0, 0, 0⟩ := by
      have ho : (im.code.getD q default).op = 30 ∨ (im.code.getD q default).op = 31 := by rw [hcl]; cases ab <;> simp
      have htq : tgt (im.code.getD q default) = true := by unfold tgt; rw [tg _ (by omega)]
      obtain ⟨t2', w1, w2, w3⟩ := htg q mq htq
      have e1 : t2' = st := by
        rw [tg _ (by omega)] at w3
        dsimp only at w3
        rw [hcl] at w3
        dsimp only at w3
        have : keptF im.code st = keptF im.code t2' := by omega
        exact (E.inj.1 this).symm
      subst e1
      have hoq := opt_at mq
      rw [hoq] at w2 ⊢
      unfold re at w2 ⊢
      rw [if_pos htq] at w2 ⊢
      rw [ret_target htq] at w2
      rw [w2, hcl]
      unfold Ins.retarget retA retB
      cases ab <;> simp
    rw [if_neg (by rw [hcl']; simp)]
    injection h with _ h
    subst h
    refine ⟨_, ?_, rfl, hhalt⟩
    have hd2 : (if ab = true then -s.dir else s.dir) = 1 ∨ (if ab = true then -s.dir else s.dir) = -1 := by
      split <;> rcases hd with e | e <;> rw [e] <;> simp
    generalize (if ab = true then -s.dir else s.dir) = d at *
    exact rel_at q a1 mq hd2 rfl rfl rfl rfl (fun b hb => hR.ct b (by rw [hca]; exact List.mem_append_left _ hb)) hcore
  rw [if_neg h32] at h
  rw [if_neg (by rw [hop]; exact h32)]
  have h22 : jumpB (im.code.getD k default).op = true ∨ landB (im.code.getD k default).op = true := by
    by_cases hx : jumpB (im.code.getD k default).op = true ∨ landB (im.code.getD k default).op = true
    · exact hx
    · exfalso
      rw [ctl_iff] at hx
      have h35 : (im.code.getD k default).op < 35 := by
        have := hval
        unfold Ins.valid validB at this
        simp only [Bool.and_eq_true, decide_eq_true_eq] at this
        exact this.1.1
      omega
  rw [if_pos h22] at h
  rw [if_pos (by rw [hop]; exact h22)]
  unfold jump at h ⊢
  obtain ⟨pa1, pa2⟩ := E.partner_at hjl
  rw [i3] at pa1 pa2
  rw [pa1] at h
  by_cases hp : (partner (optCode im.code) j).2 = false
  · rw [if_pos hp] at h; cases h
  rw [if_neg hp] at h ⊢
  obtain ⟨u, v1, v2, v3⟩ := pa2 (by simpa using hp)
  rw [v3] at h
  rw [v2, hop, hR.dir]
  rw [Int.toNat_natCast] at h ⊢
  have hu1 : u < (kept im.code).length := by rw [← optCode_length]; exact v1
  obtain ⟨mu1, mu2⟩ := keptF_mem hu1
  have ku := kap_keptF hu1
  have hh1 : holds s' ((optCode im.code).getD j default) = holds s (im.code.getD k default) := by rw [hat, holds_re, holds_core hcore]
  have hh2 : holds s' ((optCode im.code).getD u default) = holds s (im.code.getD (keptF im.code u) default) := by
    have := opt_at mu1
    rw [ku] at this
    rw [this, holds_re, holds_core hcore]
  rw [hh1, hh2]
  by_cases hm : holds s (im.code.getD k default) = false
  · rw [if_pos hm] at h ⊢
    injection h with _ h
    subst h
    refine ⟨_, ?_, rfl, hhalt⟩
    exact rel_at k hn hg hd rfl (congrArg (fun q : Nat => behind q s.dir) hj.symm) rfl hR.cs hR.ct hcore
  rw [if_neg hm] at h ⊢
  by_cases hq : jumpB (im.code.getD k default).op = decide (s.dir > 0) ∧ holds s (im.code.getD (keptF im.code u) default) = true
  · rw [if_pos hq] at h ⊢
    injection h with _ h
    subst h
    refine ⟨_, ?_, rfl, hhalt⟩
    exact rel_at (keptF im.code u) mu2 mu1 hd rfl (congrArg (fun q : Nat => behind q s.dir) ku.symm) rfl hR.cs hR.ct hcore
  · rw [if_neg hq] at h; cases h
/-- Many steps. -/
theorem sim_run {M : Mach} (hf : Fit im M) (h0 : Rel im.code M M) : ∀ n, Ran im.code M n → ∃ k, k ≤ n ∧ (∀ i, i < k → te (optCode im.code) M i = 0 ∧ halt (optCode im.code) (tr (optCode im.code) M i) = false) ∧ Rel im.code (tr im.code M n) (tr (optCode im.code) M k)
  | 0, _ => ⟨0, Nat.le_refl _, fun i hi => absurd hi (Nat.not_lt_zero _), h0⟩
  | n + 1, hr => by
    obtain ⟨k, hk, hi, hR⟩ := sim_run hf h0 n (hr.le (Nat.le_succ n))
    have h1 := te_ok (hr n (Nat.lt_succ_self n))
    have hfn := tr_fit hv hw hf n
    obtain ⟨p, p1, p2, p3, p4⟩ := step_ok_in (by rw [h1])
    by_cases hg : p ∈ keepAt im.code im.code.length
    · obtain ⟨s1', q1, q2, q3⟩ := sim_kept hv hw hR hfn p1 p2 p3 p4 hg h1
      have e1 : te (optCode im.code) M k = 0 := by unfold te; rw [q2]
      have e2 : tr (optCode im.code) M (k + 1) = s1' := by show (Bk.step (optCode im.code) (tr (optCode im.code) M k)).2 = s1'; rw [q2]
      refine ⟨k + 1, by omega, fun i h => ?_, by rw [e2]; exact q1⟩
      rcases Nat.lt_succ_iff_lt_or_eq.1 h with h' | rfl
      · exact hi i h'
      · exact ⟨e1, q3⟩
    · exact ⟨k, by omega, hi, sim_gone hv hw hR hfn p1 p2 p4 hg h1⟩
/-- A machine that is halted is halted in the optimized program, and equal but for its position. -/
theorem sim_halt {s s' : Mach} (hR : Rel im.code s s') (h : halt im.code s = true) : halt (optCode im.code) s' = true ∧ { s' with pc := s.pc } = s := by
  have hv_ := hv; have hw_ := hw; clear hv_ hw_
  unfold halt at h
  simp only [Bool.and_eq_true, Bool.or_eq_true, decide_eq_true_eq] at h
  obtain ⟨h1, h2, h3⟩ := h
  have hc0 : s.calls = [] := List.eq_nil_of_length_eq_zero h2
  have hp0 := hR.p0
  have hp1 := hR.p1
  obtain ⟨p, hp⟩ := Int.eq_ofNat_of_zero_le hp0
  have hpt : s.pc.toNat = p := by omega
  have hcs : s'.calls = [] := by rw [hR.cs, hc0]; rfl
  have key : pendK im.code p = [] ∧ (kap im.code p = (optCode im.code).length ∨ ((optCode im.code).getD (kap im.code p) default).op = 34) := by
    rcases h3 with h3 | h3
    · obtain rfl : p = im.code.length := by omega
      exact ⟨(kap_end _).2, .inl (kap_end _).1⟩
    · rw [hpt] at h3
      have hlt : p < im.code.length := by
        rcases Nat.lt_or_ge p im.code.length with e | e
        · exact e
        · rw [getD_mem e] at h3; cases h3
      have hm := ctl_kept hlt (ctl_of_op (c := im.code) (k := p) (by omega))
      exact ⟨(kept_step hlt hm).1, .inr (by rw [opt_at hm, re_op]; exact h3)⟩
  have hpd := hR.pd
  rw [hpt, key.1] at hpd
  have hcore : s.core = s'.core := hpd
  refine ⟨?_, ?_⟩
  · unfold halt
    rw [hR.dir, hcs, hR.pc, hpt, h1, Int.toNat_natCast]
    rcases key.2 with e | e
    · rw [e]; simp
    · rw [e]; simp
  · have e := core_back hcore.symm
    rw [e]
    have : s.dir = s'.dir := hR.dir.symm
    show s'.to_ s.pc s'.dir s'.calls = s'.to_ s.pc s.dir s.calls
    rw [this, hcs, hc0]
theorem rel_zero {M : Mach} (h1 : M.pc = 0) (h2 : M.calls = []) : Rel im.code M M := by
  have hv_ := hv; have hw_ := hw; clear hv_ hw_
  obtain ⟨z1, z2⟩ := kap_zero im.code
  refine ⟨by omega, by rw [h1]; omega, by rw [h1]; show (0 : Int) = (kap im.code 0 : Nat); rw [z1]; rfl, rfl, by rw [h2]; rfl, by rw [h2]; simp, ?_⟩
  rw [h1]
  show Pend im.code M.core (pendK im.code 0) M.core
  rw [z2]; rfl
end
end Bk

/- Plain: runs of the optimized program. -/
set_option linter.unusedVariables false
namespace Bk
theorem runV_eq {code : Prg} {M : Mach} : ∀ (f j k : Nat), k ≤ f → (∀ i, i < k → te code M (j + i) = 0 ∧ halt code (tr code M (j + i)) = false) → halt code (tr code M (j + k)) = true → runV code M f j = k
  | 0, j, k, hk, _, _ => by
    obtain rfl : k = 0 := by omega
    rfl
  | f + 1, j, 0, _, _, hh => by
    unfold runV
    rw [if_pos (.inl hh)]
  | f + 1, j, k + 1, hk, hi, hh => by
    unfold runV
    have h0 := hi 0 (Nat.succ_pos _)
    rw [if_neg (by rintro (h | h); (rw [Nat.add_zero] at h0; rw [h0.2] at h; cases h); (rw [Nat.add_zero] at h0; exact h h0.1))]
    rw [runV_eq f (j + 1) k (by omega) (fun i hik => by have := hi (i + 1) (by omega); rw [show j + (i + 1) = j + 1 + i by omega] at this; exact this) (by rw [show j + 1 + k = j + (k + 1) by omega]; exact hh)]
theorem runV_halt {code : Prg} {M : Mach} (f j : Nat) (h : endE code M (f - runV code M f j) (j + runV code M f j) = 0) : halt code (tr code M (j + runV code M f j)) = true := by
  by_cases hh : halt code (tr code M (j + runV code M f j)) = true
  · exact hh
  unfold endE at h
  rw [if_neg hh] at h
  have hle := runV_le code M f j
  by_cases h0 : f - runV code M f j = 0
  · rw [if_pos h0] at h; cases h
  · rw [if_neg h0] at h
    rcases runV_stop f j with e | e | e
    · exact absurd e hh
    · omega
    · exact absurd h e
/-- THE OPTIMIZED PROGRAM DOES THE SAME, in no more steps. -/
theorem opt_runs {im : Img} (hv : im.check.2 = 0) (hw : CodeWf im.code) {M : Mach} (hf : Fit im M) (h1 : M.pc = 0) (h2 : M.calls = []) {F N : Nat} (hN : runV im.code M F 0 = N) (he : endE im.code M (F - N) (0 + N) = 0) :
    ∃ k, k ≤ N ∧ runV (optCode im.code) M F 0 = k ∧ endE (optCode im.code) M (F - k) (0 + k) = 0 ∧ { tr (optCode im.code) M (0 + k) with pc := (tr im.code M (0 + N)).pc } = tr im.code M (0 + N) := by
  have hh := runV_halt (code := im.code) (M := M) F 0 (by rw [hN]; exact he)
  have hle := runV_le im.code M F 0
  have hran := runV_ran (code := im.code) (M := M) F 0 (Ran.zero _ _)
  rw [hN] at hh hle hran
  rw [Nat.zero_add] at hh hran
  obtain ⟨k, hk, hi, hR⟩ := sim_run hv hw hf (rel_zero hv hw h1 h2) N hran
  obtain ⟨q1, q2⟩ := sim_halt hv hw hR hh
  refine ⟨k, hk, runV_eq F 0 k (by omega) (fun i hik => by rw [Nat.zero_add]; exact hi i hik) (by rw [Nat.zero_add]; exact q1), ?_, by rw [Nat.zero_add, Nat.zero_add]; exact q2⟩
  rw [Nat.zero_add]
  unfold endE
  rw [if_pos q1]
end Bk
