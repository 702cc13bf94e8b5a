/- Plain: what is kept; code followed by its inverse, put into an image, vanishes. -/
import Derived.Test.YtfobnkgfbdmakaaDoorNorm
set_option linter.unusedVariables false
namespace Bk

theorem push_filter {P : Ins → Bool} (hP : ∀ x, P x = true → ctl x = true) (s : List Ins) (x : Ins) : (push s x).filter P = (if P x then [x] else []) ++ s.filter P := by
  have no : ∀ y, ctlB y.op = false → P y = false := by
    intro y hy
    cases h : P y with
    | false => rfl
    | true => have := hP y h; unfold ctl at this; rw [hy] at this; cases this
  cases s with
  | nil => simp [push_nil, List.filter_cons]
  | cons p s =>
    rw [push_cons]
    split
    · rename_i hc
      obtain ⟨h1, h2⟩ := cancels_ctl hc
      simp [no _ h1, no _ h2]
    · cases hx : P x <;> simp [hx]
theorem red_filter {P : Ins → Bool} (hP : ∀ x, P x = true → ctl x = true) (s l : List Ins) : (red s l).filter P = (l.filter P).reverse ++ s.filter P := by
  induction l generalizing s with
  | nil => rfl
  | cons x l ih =>
    rw [red_cons, ih, push_filter hP]
    cases hx : P x <;> simp [hx]
theorem nf_filter {P : Ins → Bool} (hP : ∀ x, P x = true → ctl x = true) (l : List Ins) : (nf l).filter P = l.filter P := by
  unfold nf
  rw [List.filter_reverse, red_filter hP]; simp

/-- The opcodes of the instructions of one kind. -/
def opsOf (P : Int → Bool) (c : Prg) : List Int := (c.map (·.op)).filter P
theorem opsOf_eq (P : Int → Bool) (c : Prg) : opsOf P c = (c.filter fun x => P x.op).map (·.op) := by
  unfold opsOf; rw [List.filter_map]; rfl
theorem opt_ops {P : Int → Bool} (hP : ∀ x, P x = true → ctlB x = true) (c : Prg) : opsOf P (optCode c) = opsOf P c := by
  rw [optCode_eq]
  have e : ((nf c).map (re fun t => idxA (kept c) (kept c).length t.toNat)).map (·.op) = (nf c).map (·.op) := by
    rw [List.map_map]
    exact List.map_congr_left fun x _ => re_op _ x
  unfold opsOf
  rw [e]
  have h1 := opsOf_eq P (nf c)
  have h2 := opsOf_eq P c
  unfold opsOf at h1 h2
  rw [h1, h2, nf_filter (fun x hx => hP x.op hx)]

/-- Code, then its inverse. -/
def both (l : Prg) : Prg := l ++ (l.map Ins.inverse).reverse
theorem red_both {s : List Ins} (hs : Reduced s) (l : Prg) (h : ∀ x ∈ l, cancels x x.inverse = true) : red s (both l) = s := by
  induction l generalizing s with
  | nil => rfl
  | cons x l ih =>
    have e : both (x :: l) = x :: (both l ++ [x.inverse]) := by simp [both]
    rw [e, red_cons, red_append, ih (push_reduced hs x) (fun y hy => h y (by simp [hy])), red_cons, red_nil]
    exact push_pair hs (h x (by simp))
theorem both_ctl {l : Prg} (h : ∀ x ∈ l, cancels x x.inverse = true) : ∀ y ∈ both l, ctl y = false ∧ y.valid = true := by
  intro y hy
  unfold both at hy
  rcases List.mem_append.1 hy with h1 | h1
  · exact ⟨(cancels_ctl (h y h1)).1, (cancels_iff.1 (h y h1)).1⟩
  · rw [List.mem_reverse] at h1
    obtain ⟨x, hx, rfl⟩ := List.mem_map.1 h1
    exact ⟨(cancels_ctl (h x hx)).2, (cancels_iff.1 (cancels_symm (h x hx))).1⟩

/-- A piece put in ahead of index k. -/
def sh (k n : Nat) (t : Int) : Int := if (k : Int) ≤ t then t + n else t
def insC (c b : Prg) (k : Nat) : Prg := (c.take k).map (re (sh k b.length)) ++ b ++ (c.drop k).map (re (sh k b.length))
theorem insC_length (c b : Prg) (k : Nat) (hk : k ≤ c.length) : (insC c b k).length = c.length + b.length := by simp [insC]; omega

def upF (k n : Nat) (j : Nat) : Nat := if k ≤ j then j + n else j
theorem insC_up (c b : Prg) (k : Nat) (hk : k ≤ c.length) (j : Nat) (hj : j < c.length) : (insC c b k).getD (upF k b.length j) default = re (sh k b.length) (c.getD j default) := by
  have e : re (sh k b.length) (c.getD j default) = (c.map (re (sh k b.length))).getD j default := (getD_re _ _ _ hj).symm
  rw [e]
  have e2 : c.map (re (sh k b.length)) = (c.take k).map (re (sh k b.length)) ++ (c.drop k).map (re (sh k b.length)) := by rw [← List.map_append, List.take_append_drop]
  have l1 : ((c.take k).map (re (sh k b.length))).length = k := by simp; omega
  unfold insC upF
  rw [e2]
  generalize (c.take k).map (re (sh k b.length)) = A at *
  generalize (c.drop k).map (re (sh k b.length)) = B at *
  subst l1
  rw [List.getD_eq_getElem?_getD, List.getD_eq_getElem?_getD]
  by_cases h : A.length ≤ j
  · rw [if_pos h, List.getElem?_append_right (by simp; omega), List.getElem?_append_right h]
    congr 2; simp; omega
  · rw [if_neg h, List.append_assoc, List.getElem?_append_left (by omega), List.getElem?_append_left (by omega)]
theorem insC_mid (c b : Prg) (k : Nat) (hk : k ≤ c.length) (i : Nat) (hi : i < (insC c b k).length) (hno : ∀ j, upF k b.length j ≠ i) : (insC c b k).getD i default ∈ b := by
  have l1 : ((c.take k).map (re (sh k b.length))).length = k := by simp; omega
  have h1 : k ≤ i := by
    rcases Nat.lt_or_ge i k with h | h
    · exact absurd (by unfold upF; rw [if_neg (by omega)]) (hno i)
    · exact h
  have h2 : i < k + b.length := by
    rcases Nat.lt_or_ge i (k + b.length) with h | h
    · exact h
    · exact absurd (by unfold upF; rw [if_pos (by omega)]; omega) (hno (i - b.length))
  unfold insC
  rw [List.getD_eq_getElem?_getD, List.append_assoc, List.getElem?_append_right (by omega), List.getElem?_append_left (by omega), List.getElem?_eq_getElem (by omega)]
  exact List.getElem_mem _
theorem sh_up (k n t : Nat) : sh k n (t : Int) = ((upF k n t : Nat) : Int) := by
  unfold sh upF; split <;> split <;> omega

theorem ins_emb {im : Img} (h : im.check.2 = 0) (hw : CodeWf im.code) {b : Prg} {k : Nat} (hk : k ≤ im.code.length) (hb : ∀ y ∈ b, ctl y = false ∧ y.valid = true) (hl : im.code.length + b.length ≤ 65536) :
    Emb (upF k b.length) im.code (insC im.code b k) := by
  obtain ⟨hs, hf⟩ := check_fault h
  obtain ⟨hg, hp⟩ := valid_good h
  have hT : ∀ j, j < im.code.length → tgt (im.code.getD j default) = true → ∃ t : Nat, t < im.code.length ∧ (im.code.getD j default).target.1 = (t : Int) := by
    intro j hj ht
    obtain ⟨t, e, h1, _⟩ := hg _ (mem_getD hj) ht
    exact ⟨t, h1, e⟩
  refine ⟨?_, ?_, ?_, ?_, ?_, ?_, ?_⟩
  · intro x y hxy; unfold upF; split <;> split <;> omega
  · intro j; rw [insC_length _ _ _ hk]; unfold upF; split <;> omega
  · intro j hj; rw [insC_up _ _ _ hk j hj, re_op]
  · intro j hj
    rw [insC_up _ _ _ hk j hj]
    have hv := fault_ok (hf j hj)
    rw [hv]
    by_cases ht : tgt (im.code.getD j default) = true
    · obtain ⟨t, t1, t2⟩ := hT j hj ht
      rw [re, if_pos ht, t2, sh_up]
      refine ret_valid hv (hw j hj).op0 ht (by omega) ?_
      unfold upF; split <;> omega
    · rw [re, if_neg ht]; exact hv
  · intro j hj
    rw [insC_up _ _ _ hk j hj]
    exact re_tgt _ _
  · intro j hj ht
    obtain ⟨t, t1, t2⟩ := hT j hj ht
    refine ⟨t, t1, t2, ?_⟩
    rw [insC_up _ _ _ hk j hj, re_target _ ht, t2, sh_up]
  · intro i hi hno
    have hm := (hb _ (insC_mid _ _ _ hk i hi hno)).1
    cases ht : ((insC im.code b k).getD i default).target.2 with
    | false => rfl
    | true => have := tgt_ctl (x := (insC im.code b k).getD i default) ht; unfold ctl at hm; rw [hm] at this; cases this

theorem ins_valid {im : Img} (h : im.check.2 = 0) (hw : CodeWf im.code) {b : Prg} {k : Nat} (hk : k ≤ im.code.length) (hb : ∀ y ∈ b, ctl y = false ∧ y.valid = true) (hl : im.code.length + b.length ≤ 65536) :
    ({ im with code := insC im.code b k } : Img).check.2 = 0 := by
  have E := ins_emb h hw hk hb hl
  obtain ⟨hs, hf⟩ := check_fault h
  refine check_of ?_ fun i hi => ?_
  · have := insC_length im.code b k hk
    unfold Img.sized at hs ⊢
    simp at hs ⊢; omega
  · by_cases hin : ∃ j, upF k b.length j = i
    · obtain ⟨j, rfl⟩ := hin
      have hj := (E.len j).2 hi
      rw [E.fault_at hj]; exact hf j hj
    · have hno : ∀ j, upF k b.length j ≠ i := fun j e => hin ⟨j, e⟩
      have hm := hb _ (insC_mid _ _ _ hk i hi hno)
      have ht := E.rest i hi hno
      unfold fault
      simp only
      rw [if_neg (by rw [hm.2]; simp), if_pos ht]

theorem ctl_default : ctl (default : Ins) = true := by rfl
theorem cnt_mid (A b B : Prg) (hb : ∀ y ∈ b, ctl y = false) (t : Nat) : cnt (A ++ b ++ B) (if A.length ≤ t then t + b.length else t) = cnt (A ++ B) t := by
  have hz : ∀ (b : Prg), (∀ y ∈ b, ctl y = false) → ∀ s, cnt b s = 0 := by
    intro b
    induction b with
    | nil => intro _ s; rfl
    | cons x b ih =>
      intro h s
      cases s with
      | zero => rfl
      | succ s => simp only [cnt, h x (by simp), ih (fun y hy => h y (by simp [hy]))]; rfl
  by_cases h : A.length ≤ t
  · rw [if_pos h, List.append_assoc, cnt_append, cnt_append A B]
    rcases Nat.eq_or_lt_of_le h with e | e
    · rw [if_pos (by omega : t ≤ A.length)]
      by_cases h0 : b.length = 0
      · rw [if_pos (by omega)]; congr 1; omega
      · rw [if_neg (by omega), cnt_append, if_pos (by omega), hz b hb]; rw [← e]; rfl
    · rw [if_neg (by omega), if_neg (by omega), cnt_append, if_neg (by omega), hz b hb]
      congr 1
      rw [Nat.zero_add]; congr 1; omega
  · rw [if_neg h, List.append_assoc, cnt_append, if_pos (by omega), cnt_append, if_pos (by omega)]

theorem ins_opt {im : Img} (h : im.check.2 = 0) (hw : CodeWf im.code) {l : Prg} {k : Nat} (hk : k ≤ im.code.length) (hc : ∀ x ∈ l, cancels x x.inverse = true) (hl : im.code.length + (both l).length ≤ 65536) :
    optCode (insC im.code (both l) k) = optCode im.code := by
  have hb := both_ctl hc
  have hv := ins_valid h hw hk hb hl
  obtain ⟨hg, hp⟩ := valid_good h
  obtain ⟨hg2, hp2⟩ := valid_good hv
  obtain ⟨o1, o2⟩ := opt_good hg
  obtain ⟨p1, p2⟩ := opt_good hg2
  refine lab_inj p1 o1 ?_
  rw [p2, o2]
  simp only
  have hA : ((im.code.take k).map (re (lab im.code))).length = k := by simp; omega
  have hlab : ∀ x ∈ im.code, tgt x = true → lab (insC im.code (both l) k) (sh k (both l).length x.target.1) = lab im.code x.target.1 := by
    intro x hx ht
    obtain ⟨t, e, h1, h2⟩ := hg x hx ht
    rw [e, sh_up]
    simp only [lab, Int.toNat_natCast]
    have := cnt_mid ((im.code.take k).map (re (sh k (both l).length))) (both l) ((im.code.drop k).map (re (sh k (both l).length))) (fun y hy => (hb y hy).1) t
    have hk2 : ((im.code.take k).map (re (sh k (both l).length))).length = k := by simp; omega
    rw [hk2] at this
    rw [← List.map_append, List.take_append_drop, cnt_re] at this
    rw [← this]; rfl
  have e : Lab (insC im.code (both l) k) = (im.code.take k).map (re (lab im.code)) ++ both l ++ (im.code.drop k).map (re (lab im.code)) := by
    unfold Lab
    conv => lhs; arg 2; unfold insC
    rw [List.map_append, List.map_append, List.map_map, List.map_map]
    congr 1
    · congr 1
      · refine List.map_congr_left fun x hx => ?_
        rw [Function.comp_apply, re_re]
        exact re_congr fun ht => hlab x (List.mem_of_mem_take hx) ht
      · conv => rhs; rw [← List.map_id (both l)]
        refine List.map_congr_left fun x hx => ?_
        rw [re, if_neg]; rfl
        intro ht
        have := (hb x hx).1
        have h2 := tgt_ctl ht
        unfold ctl at this; rw [this] at h2; cases h2
    · refine List.map_congr_left fun x hx => ?_
      rw [Function.comp_apply, re_re]
      exact re_congr fun ht => hlab x (List.mem_of_mem_drop hx) ht
  rw [e]
  have e2 : Lab im.code = (im.code.take k).map (re (lab im.code)) ++ (im.code.drop k).map (re (lab im.code)) := by
    unfold Lab; rw [← List.map_append, List.take_append_drop]
  rw [e2]
  unfold nf
  congr 1
  rw [red_append, red_append, red_append, red_both (red_reduced (by trivial) _) l hc]
end Bk
