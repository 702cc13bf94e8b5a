/- Several texts in one: EgC1 EgC2 EgC3 EgC4 EgC5. -/
import Derived.Test.YtbijhlgdilkopaaGreatDoorEnX
import Derived.Test.YtbijhlgdilkopaaGreatDoorPa
import Derived.Test.YtbijhlgdilkopaaGreatDoorMh
set_option linter.unusedVariables false
set_option linter.unusedSimpArgs false
/- Plain: what the code of an expression does on a machine: it pushes one number per node, the last of which is the value. -/
set_option linter.unusedVariables false
set_option linter.unusedSimpArgs false
namespace Bk
open Go (bits BinOp IntKind)
open Go.RowKit (wrap64)
/-- Straight code: up to its end or to the first error. -/
def seqX : Prg → Mach → Int × Mach
  | [], M => (0, M)
  | i :: l, M => if (exec M i).1 = 0 then seqX l (exec M i).2 else exec M i
theorem seqX_cons {i : Ins} {l : Prg} {M M' : Mach} (h : exec M i = (0, M')) : seqX (i :: l) M = seqX l M' := by
  rw [seqX, if_pos (by rw [h]), h]
theorem seqX_stop {i : Ins} {l : Prg} {M M' : Mach} {e : Int} (he : e ≠ 0) (h : exec M i = (e, M')) : seqX (i :: l) M = (e, M') := by
  rw [seqX, if_neg (by rw [h]; exact he), h]
theorem seqX_append (l r : Prg) : ∀ M, seqX (l ++ r) M = if (seqX l M).1 = 0 then seqX r (seqX l M).2 else seqX l M := by
  induction l with
  | nil => intro M; simp [seqX]
  | cons i l ih =>
    intro M
    rw [List.cons_append]
    simp only [seqX]
    by_cases h : (exec M i).1 = 0
    · simp only [if_pos h]; exact ih _
    · simp only [if_neg h]
theorem seqX_app {l r : Prg} {M M' : Mach} (h : seqX l M = (0, M')) : seqX (l ++ r) M = seqX r M' := by
  rw [seqX_append, h]; rfl
theorem seqX_fail {l r : Prg} {M : Mach} (h : (seqX l M).1 ≠ 0) : seqX (l ++ r) M = seqX l M := by
  rw [seqX_append, if_neg h]
/-- A machine in which registers 1, 2, 3, the cells and stack 0 are others. -/
def mk (M : Mach) (a b c : Int) (m s : List Int) : Mach := { M with r := ((M.r.set 1 a).set 2 b).set 3 c, m := m, s := M.s.set 0 s }
section
variable {M : Mach} (hr : M.r.length = 16) (hs : 1 ≤ M.s.length) (a b c : Int) (m s : List Int)
include hr
theorem mk_r1 : (mk M a b c m s).reg 1 = a := by
  simp [mk, Mach.reg, List.getElem?_set, hr]
theorem mk_r2 : (mk M a b c m s).reg 2 = b := by
  simp [mk, Mach.reg, List.getElem?_set, hr]
theorem mk_r3 : (mk M a b c m s).reg 3 = c := by
  simp [mk, Mach.reg, List.getElem?_set, hr]
theorem list16 : ∃ r0 r1 r2 r3 r4 r5 r6 r7 r8 r9 r10 r11 r12 r13 r14 r15, M.r = [r0, r1, r2, r3, r4, r5, r6, r7, r8, r9, r10, r11, r12, r13, r14, r15] := by
  match M.r, hr with
  | [r0, r1, r2, r3, r4, r5, r6, r7, r8, r9, r10, r11, r12, r13, r14, r15], _ => exact ⟨_, _, _, _, _, _, _, _, _, _, _, _, _, _, _, _, rfl⟩
theorem mk_s1 (v : Int) : (mk M a b c m s).setR 1 v = mk M v b c m s := by
  obtain ⟨r0, r1, r2, r3, r4, r5, r6, r7, r8, r9, r10, r11, r12, r13, r14, r15, h⟩ := list16 hr
  simp [mk, Mach.setR, h]
theorem mk_s2 (v : Int) : (mk M a b c m s).setR 2 v = mk M a v c m s := by
  obtain ⟨r0, r1, r2, r3, r4, r5, r6, r7, r8, r9, r10, r11, r12, r13, r14, r15, h⟩ := list16 hr
  simp [mk, Mach.setR, h]
theorem mk_s3 (v : Int) : (mk M a b c m s).setR 3 v = mk M a b v m s := by
  obtain ⟨r0, r1, r2, r3, r4, r5, r6, r7, r8, r9, r10, r11, r12, r13, r14, r15, h⟩ := list16 hr
  simp [mk, Mach.setR, h]
omit hr
theorem mk_setM (k v : Int) : (mk M a b c m s).setM k v = mk M a b c (m.set k.toNat v) s := rfl
theorem mk_setS (s' : List Int) : (mk M a b c m s).setS 0 s' = mk M a b c m s' := by
  simp [mk, Mach.setS]
theorem mk_sl : (mk M a b c m s).s.length = M.s.length := by simp [mk]
include hs
theorem mk_stk : (mk M a b c m s).stk 0 = s := by
  have : 0 < M.s.length := by omega
  simp [mk, Mach.stk, List.getElem?_set, this]
omit hs
theorem mk_stkk {k : Int} (hk : 1 ≤ k) : (mk M a b c m s).stk k = M.stk k := by
  simp only [mk, Mach.stk]
  exact getD_set_ne _ _ _ _ _ (by omega)
theorem mk_find (k : Int) : find (mk M a b c m s) k = find M k := rfl
theorem find0 : find M 0 = 0 := rfl
include hr hs
theorem mk_push1 : exec (mk M a b c m s) ⟨12, 1, 0, 0, 0⟩ = (0, mk M 0 b c m (s ++ [a])) := by
  rw [exec_12]; unfold stack
  rw [show find (mk M a b c m s) (⟨12, 1, 0, 0, 0⟩ : Ins).b = 0 from rfl, mk_sl, if_neg (by omega), if_neg (by decide), if_pos rfl, if_neg (by simp), mk_stk hs, mk_setS, mk_s1 hr, mk_r1 hr]
theorem mk_push2 : exec (mk M a b c m s) ⟨12, 2, 0, 0, 0⟩ = (0, mk M a 0 c m (s ++ [b])) := by
  rw [exec_12]; unfold stack
  rw [show find (mk M a b c m s) (⟨12, 2, 0, 0, 0⟩ : Ins).b = 0 from rfl, mk_sl, if_neg (by omega), if_neg (by decide), if_pos rfl, if_neg (by simp), mk_stk hs, mk_setS, mk_s2 hr, mk_r2 hr]
theorem mk_push3 : exec (mk M a b c m s) ⟨12, 3, 0, 0, 0⟩ = (0, mk M a b 0 m (s ++ [c])) := by
  rw [exec_12]; unfold stack
  rw [show find (mk M a b c m s) (⟨12, 3, 0, 0, 0⟩ : Ins).b = 0 from rfl, mk_sl, if_neg (by omega), if_neg (by decide), if_pos rfl, if_neg (by simp), mk_stk hs, mk_setS, mk_s3 hr, mk_r3 hr]
theorem mk_pop1 (v : Int) : exec (mk M 0 b c m (s ++ [v])) ⟨13, 1, 0, 0, 0⟩ = (0, mk M v b c m s) := by
  rw [exec_13]; unfold stack
  rw [show find (mk M 0 b c m (s ++ [v])) (⟨13, 1, 0, 0, 0⟩ : Ins).b = 0 from rfl, mk_sl, if_neg (by omega), if_neg (by decide), if_neg (by decide), mk_stk hs, if_neg (by simp), if_neg (by decide), if_neg (by rw [mk_r1 hr]; simp), mk_setS, mk_s1 hr, List.dropLast_concat, List.getLastD_concat]
theorem mk_pop2 (v : Int) : exec (mk M a 0 c m (s ++ [v])) ⟨13, 2, 0, 0, 0⟩ = (0, mk M a v c m s) := by
  rw [exec_13]; unfold stack
  rw [show find (mk M a 0 c m (s ++ [v])) (⟨13, 2, 0, 0, 0⟩ : Ins).b = 0 from rfl, mk_sl, if_neg (by omega), if_neg (by decide), if_neg (by decide), mk_stk hs, if_neg (by simp), if_neg (by decide), if_neg (by rw [mk_r2 hr]; simp), mk_setS, mk_s2 hr, List.dropLast_concat, List.getLastD_concat]
omit hs
theorem mk_xori (v : Int) : exec (mk M a b c m s) ⟨6, 1, v, 0, 0⟩ = (0, mk M (xor64 a v) b c m s) := by
  rw [exec_6, mk_s1 hr, mk_r1 hr]
theorem mk_xor21 : exec (mk M a b c m s) ⟨3, 2, 1, 0, 0⟩ = (0, mk M a (xor64 b a) c m s) := by
  rw [exec_3, mk_s2 hr, mk_r1 hr, mk_r2 hr]
theorem mk_xor32 : exec (mk M a b c m s) ⟨3, 3, 2, 0, 0⟩ = (0, mk M a b (xor64 c b) m s) := by
  rw [exec_3, mk_s3 hr, mk_r3 hr, mk_r2 hr]
theorem mk_xor31 : exec (mk M a b c m s) ⟨3, 3, 1, 0, 0⟩ = (0, mk M a b (xor64 c a) m s) := by
  rw [exec_3, mk_s3 hr, mk_r3 hr, mk_r1 hr]
theorem mk_neg3 : exec (mk M a b c m s) ⟨8, 3, 0, 0, 0⟩ = (0, mk M a b (wrap64 (-c)) m s) := by
  rw [exec_8, mk_s3 hr, mk_r3 hr]
theorem mk_calc (op : Int) : exec (mk M a b c m s) ⟨9, 3, 1, 2, op⟩ = if (apply op a b).2 ≠ 0 then ((apply op a b).2, mk M a b c m s) else (0, mk M a b (xor64 c (apply op a b).1) m s) := by
  rw [exec_9, mk_s3 hr, mk_r3 hr, mk_r1 hr, mk_r2 hr]
theorem mk_mem (pos : Int) (h0 : 0 ≤ M.fp + pos) (h1 : M.fp + pos < m.length) : exec (mk M a b c m s) ⟨10, 1, pos, 0, 0⟩ = (0, mk M (m.getD (M.fp + pos).toNat 0) b c (m.set (M.fp + pos).toNat a) s) := by
  rw [exec_10]; unfold exchange
  rw [show (mk M a b c m s).fp = M.fp from rfl, show (mk M a b c m s).m = m from rfl, if_neg (by omega), mk_s1 hr, mk_setM, mk_r1 hr]
theorem mk_idx (pos len : Int) (i : Int) (hi0 : 0 ≤ i) (hi1 : i < len) (h0 : 0 ≤ M.fp + pos + i) (h1 : M.fp + pos + i < m.length) : exec (mk M i b c m s) ⟨11, 2, 1, pos, len⟩ = (0, mk M i (m.getD (M.fp + pos + i).toNat 0) c (m.set (M.fp + pos + i).toNat b) s) := by
  rw [exec_11, mk_r1 hr, if_neg (by omega)]; unfold exchange
  rw [show (mk M i b c m s).fp = M.fp from rfl, show (mk M i b c m s).m = m from rfl, if_neg (by omega), mk_s2 hr, mk_setM, mk_r2 hr]
theorem mk_idxF (pos len : Int) (i : Int) (hi : i < 0 ∨ len ≤ i) : exec (mk M i b c m s) ⟨11, 2, 1, pos, len⟩ = (12, mk M i b c m s) := by
  rw [exec_11, mk_r1 hr, if_pos hi]
theorem mk_top (pos : Int) (hp : 1 ≤ pos) (hsb : 0 ≤ M.sb) (h : M.sb + pos < M.s.length) (hl : (M.stk (M.sb + pos)).length ≠ 0) : exec (mk M a b c m s) ⟨14, 1, pos, 0, 0⟩ = (0, mk M (xor64 a ((M.stk (M.sb + pos)).getLastD 0)) b c m s) := by
  rw [exec_14]; unfold stack
  rw [show find (mk M a b c m s) (⟨14, 1, pos, 0, 0⟩ : Ins).b = M.sb + pos by unfold find; simp only [mk]; rw [if_pos (by omega)]; omega, mk_sl, if_neg (by omega), if_neg (by simp), if_neg (by simp), mk_stkk _ _ _ _ _ (by omega), if_neg hl, if_pos rfl, mk_s1 hr, mk_r1 hr]
omit hr
theorem mk_topF (pos : Int) (hp : 1 ≤ pos) (hsb : 0 ≤ M.sb) (h : M.sb + pos < M.s.length) (hl : (M.stk (M.sb + pos)).length = 0) : exec (mk M a b c m s) ⟨14, 1, pos, 0, 0⟩ = (13, mk M a b c m s) := by
  rw [exec_14]; unfold stack
  rw [show find (mk M a b c m s) (⟨14, 1, pos, 0, 0⟩ : Ins).b = M.sb + pos by unfold find; simp only [mk]; rw [if_pos (by omega)]; omega, mk_sl, if_neg (by omega), if_neg (by simp), if_neg (by simp), mk_stkk _ _ _ _ _ (by omega), if_pos hl]
include hr
theorem mk_size (pos : Int) (hp : 1 ≤ pos) (hsb : 0 ≤ M.sb) (h : M.sb + pos < M.s.length) : exec (mk M a b c m s) ⟨15, 1, pos, 0, 0⟩ = (0, mk M (xor64 a (M.stk (M.sb + pos)).length) b c m s) := by
  rw [exec_15]; unfold stack
  rw [show find (mk M a b c m s) (⟨15, 1, pos, 0, 0⟩ : Ins).b = M.sb + pos by unfold find; simp only [mk]; rw [if_pos (by omega)]; omega, mk_sl, if_neg (by omega), if_pos rfl, mk_stkk _ _ _ _ _ (by omega), mk_s1 hr, mk_r1 hr]
omit hr
theorem mk_self (h1 : M.reg 1 = 0) (h2 : M.reg 2 = 0) (h3 : M.reg 3 = 0) : mk M 0 0 0 M.m (M.stk 0) = M := by
  obtain ⟨pc, dir, r, m, s, calls, fp, sb, inp, out⟩ := M
  simp only [mk, Mach.reg, Mach.stk] at *
  have e1 : r.set 1 0 = r := by rw [← h1]; exact set_self r _ 0
  have e2 : r.set 2 0 = r := by rw [← h2]; exact set_self r _ 0
  have e3 : r.set 3 0 = r := by rw [← h3]; exact set_self r _ 0
  rw [e1, e2, e3]
  rw [show s.set 0 (s.getD (0 : Int).toNat []) = s from set_self s _ []]
theorem mk_setS0 (h1 : M.reg 1 = 0) (h2 : M.reg 2 = 0) (h3 : M.reg 3 = 0) (s' : List Int) : mk M 0 0 0 M.m s' = M.setS 0 s' := by
  rw [← mk_setS (s := M.stk 0), mk_self h1 h2 h3]
end
theorem xor0 {v : Int} (h : I64 v) : xor64 0 v = v := by
  show IntKind.i64.wrap ((BitVec.ofInt 64 0 ^^^ BitVec.ofInt 64 v).toNat : Int) = v
  rw [show BitVec.ofInt 64 0 = 0#64 from rfl, BitVec.zero_xor, wrap_toNat, BitVec.toInt_ofInt]
  unfold I64 at h
  simp [Int.bmod]; omega
/-- The value of an expression, and an error. -/
def evalE (look : ByteArray → List Int) : Ex → Int × Int
  | .num v => (v, 0)
  | .var s => ((look s).getD 0 0, 0)
  | .top s => if (look s).length = 0 then (0, 13) else ((look s).getLastD 0, 0)
  | .size s => ((look s).length, 0)
  | .item s a => if (evalE look a).2 ≠ 0 then (0, (evalE look a).2) else if (evalE look a).1 < 0 ∨ ((look s).length : Int) ≤ (evalE look a).1 then (0, 12) else ((look s).getD (evalE look a).1.toNat 0, 0)
  | .un op a => if (evalE look a).2 ≠ 0 then (0, (evalE look a).2) else if op = 6 then (wrap64 (-(evalE look a).1), 0) else (if (evalE look a).1 = 0 then 1 else 0, 0)
  | .bin op a b => if (evalE look a).2 ≠ 0 then (0, (evalE look a).2) else if (evalE look b).2 ≠ 0 then (0, (evalE look b).2) else apply op (evalE look a).1 (evalE look b).1
/-- What the code of an expression pushes ahead of its value. -/
def pushE (look : ByteArray → List Int) : Ex → List Int
  | .item _ a => pushE look a ++ [(evalE look a).1]
  | .un _ a => pushE look a ++ [(evalE look a).1]
  | .bin _ a b => pushE look a ++ pushE look b ++ [(evalE look a).1, (evalE look b).1]
  | _ => []
theorem pushE_length (look : ByteArray → List Int) : ∀ e : Ex, (pushE look e).length + 1 = e.sz
  | .num _ => rfl
  | .var _ => rfl
  | .top _ => rfl
  | .size _ => rfl
  | .item _ a => by have := pushE_length look a; simp [pushE, Ex.sz]; omega
  | .un _ a => by have := pushE_length look a; simp [pushE, Ex.sz]; omega
  | .bin _ a b => by have := pushE_length look a; have := pushE_length look b; simp [pushE, Ex.sz]; omega
theorem bits_range (o : BinOp) (x y : Int) (h : o = .and ∨ o = .or ∨ o = .xor) : I64 (bits o .i64 x y) := by
  rcases h with rfl | rfl | rfl
  · show I64 (IntKind.i64.wrap ((BitVec.ofInt 64 x &&& BitVec.ofInt 64 y).toNat : Int))
    rw [wrap_toNat]; exact toInt_range _
  · show I64 (IntKind.i64.wrap ((BitVec.ofInt 64 x ||| BitVec.ofInt 64 y).toNat : Int))
    rw [wrap_toNat]; exact toInt_range _
  · exact xor_range x y
theorem one_i64 {p : Prop} [Decidable p] : I64 (if p then 1 else 0) := by split <;> (unfold I64; omega)
theorem apply_range (op : Int) {x y : Int} (hx : I64 x) (hy : I64 y) : I64 (apply op x y).1 := by
  have pos : ∀ u : Int, 0 ≤ u → 0 ≤ u.tmod y ∧ u.tmod y ≤ u := by
    intro u hu
    have h1 := Int.tmod_nonneg y hu
    have h2 := Int.natAbs_tmod u y
    have h3 := Nat.mod_le u.natAbs y.natAbs
    omega
  have hm : I64 (x.tmod y) := by
    unfold I64 at *
    rcases Int.lt_or_le x 0 with h | h
    · have h2 := Int.neg_tmod x y
      have := pos (-x) (by omega)
      omega
    · have := pos x h
      omega
  have key : ∀ {c : Prop} [Decidable c] {a b : Int × Int}, I64 a.1 → I64 b.1 → I64 (if c then a else b).1 := by
    intro c _ a b h1 h2; split <;> assumption
  unfold apply
  repeat' (with_reducible refine key ?_ ?_)
  all_goals first | with_reducible exact wrap64_range _ | with_reducible exact i64_zero | with_reducible exact hm | with_reducible exact bits_range _ _ _ (.inl rfl) | with_reducible exact bits_range _ _ _ (.inr (.inl rfl)) | with_reducible exact bits_range _ _ _ (.inr (.inr rfl)) | with_reducible exact one_i64 | skip
  all_goals split
  all_goals first | exact i64_zero | exact wrap64_range _ | exact hm
/-- All numbers of an expression are ints. -/
def Ex.nums : Ex → Prop
  | .num v => I64 v
  | .item _ a => a.nums
  | .un _ a => a.nums
  | .bin _ a b => a.nums ∧ b.nums
  | _ => True
theorem evalE_range {look : ByteArray → List Int} (hl : ∀ s, (∀ x ∈ look s, I64 x) ∧ (look s).length ≤ 1000000) : ∀ e : Ex, e.nums → I64 (evalE look e).1
  | .num v, h => h
  | .var s, _ => getD_i64 (hl s).1 0
  | .top s, _ => by
    unfold evalE; split
    · exact i64_zero
    · exact last_i64 (hl s).1
  | .size s, _ => by have := (hl s).2; simp only [evalE]; unfold I64; omega
  | .item s a, h => by
    unfold evalE; split
    · exact i64_zero
    split
    · exact i64_zero
    · exact getD_i64 (hl s).1 _
  | .un op a, h => by
    unfold evalE; split
    · exact i64_zero
    split
    · exact wrap64_range _
    · exact one_i64
  | .bin op a b, h => by
    unfold evalE; split
    · exact i64_zero
    split
    · exact i64_zero
    · exact apply_range op (evalE_range hl a h.1) (evalE_range hl b h.2)
/-- The cells m and the stacks of a machine hold what the slots' variables hold. -/
structure Sees (sl : List St4) (cc : Int) (look : ByteArray → List Int) (M : Mach) (m : List Int) : Prop where
  var : ∀ s t, sl.find? (slotB s 1) = some t → 0 ≤ t.pos ∧ t.pos < cc ∧ look s = [m.getD (M.fp + t.pos).toNat 0]
  arr : ∀ s t, sl.find? (slotB s 2) = some t → ((look s).length : Int) = t.len ∧ 0 ≤ t.pos ∧ t.pos + t.len ≤ cc ∧ ∀ i : Nat, i < (look s).length → m.getD (M.fp + t.pos + i).toNat 0 = (look s).getD i 0
  stk : ∀ s t, sl.find? (slotB s 3) = some t → 1 ≤ t.pos ∧ M.sb + t.pos < M.s.length ∧ M.stk (M.sb + t.pos) = look s
theorem Sees.far {sl : List St4} {cc : Int} {look : ByteArray → List Int} {M : Mach} {m : List Int} (h : Sees sl cc look M m) (hfp : 0 ≤ M.fp) (k : Nat) (hk : M.fp + cc ≤ k) (v : Int) : Sees sl cc look M (m.set k v) := by
  refine ⟨?_, ?_, h.stk⟩
  · intro s t ht
    obtain ⟨h1, h2, h3⟩ := h.var s t ht
    exact ⟨h1, h2, by rw [getD_set_ne _ _ _ _ _ (by omega)]; exact h3⟩
  · intro s t ht
    obtain ⟨h1, h2, h3, h4⟩ := h.arr s t ht
    exact ⟨h1, h2, h3, fun i hi => by rw [getD_set_ne _ _ _ _ _ (by omega)]; exact h4 i hi⟩
theorem slotOf_eq {sl : List St4} {s : ByteArray} {k : Int} {t : St4} (h : sl.find? (slotB s k) = some t) : slotOf sl s k = t := by unfold slotOf; rw [h]; rfl
section
variable {sl : List St4} {cc : Int} {look : ByteArray → List Int} {M : Mach} (hr : M.r.length = 16) (hs : 1 ≤ M.s.length) (hfp : 0 ≤ M.fp) (hsb : 0 ≤ M.sb) (hcc : 0 ≤ cc) (hl : ∀ s, (∀ x ∈ look s, I64 x) ∧ (look s).length ≤ 1000000)
include hr hs hfp hsb hcc hl
/-- The code of an expression pushes the values of its nodes, its own value last; or fails as the evaluation does. -/
theorem comp_run : ∀ (e : Ex) (p : Int) (m s : List Int), e.held sl → e.nums → Sees sl cc look M m → 0 ≤ p → M.fp + cc + p + e.dp ≤ m.length → (∀ j : Nat, M.fp + cc + p ≤ j → m.getD j 0 = 0) →
    ((evalE look e).2 ≠ 0 → (seqX (comp sl cc e p) (mk M 0 0 0 m s)).1 = (evalE look e).2) ∧
    ((evalE look e).2 = 0 → seqX (comp sl cc e p) (mk M 0 0 0 m s) = (0, mk M 0 0 0 m (s ++ pushE look e ++ [(evalE look e).1])))
  | .num v, p, m, s, hh, hn, hS, hp, hm, hz => by
    refine ⟨fun h => absurd rfl h, fun _ => ?_⟩
    simp only [comp, evalE, pushE]
    rw [seqX_cons (mk_xori hr _ _ _ _ _ _), seqX_cons (mk_push1 hr hs _ _ _ _ _), xor0 hn, List.append_nil]; rfl
  | .var x, p, m, s, hh, hn, hS, hp, hm, hz => by
    refine ⟨fun h => absurd rfl h, fun _ => ?_⟩
    obtain ⟨t, ht⟩ := hh
    obtain ⟨h1, h2, h3⟩ := hS.var x t ht
    simp only [comp, evalE, pushE, slotOf_eq ht, Ex.dp] at hm ⊢
    have hlt : (M.fp + t.pos).toNat < m.length := by omega
    have hx : I64 (m.getD (M.fp + t.pos).toNat 0) := (hl x).1 _ (by rw [h3]; simp)
    rw [seqX_cons (mk_mem hr _ _ _ _ _ _ (by omega) (by omega)), seqX_cons (mk_xor21 hr _ _ _ _ _), seqX_cons (mk_mem hr _ _ _ _ _ _ (by omega) (by rw [List.length_set]; omega)), seqX_cons (mk_push2 hr hs _ _ _ _ _), getD_set_self _ _ _ _ hlt, List.set_set, set_self, xor0 hx, h3, List.append_nil]; rfl
  | .top x, p, m, s, hh, hn, hS, hp, hm, hz => by
    obtain ⟨t, ht⟩ := hh
    obtain ⟨h1, h2, h3⟩ := hS.stk x t ht
    simp only [comp, evalE, pushE, slotOf_eq ht]
    by_cases h0 : (look x).length = 0
    · simp only [if_pos h0]
      refine ⟨fun _ => ?_, fun h => absurd h (by decide)⟩
      rw [seqX_stop (by decide) (mk_topF _ _ _ _ _ _ h1 hsb h2 (by rw [h3]; exact h0))]
    · simp only [if_neg h0]
      refine ⟨fun h => absurd rfl h, fun _ => ?_⟩
      rw [seqX_cons (mk_top hr _ _ _ _ _ _ h1 hsb h2 (by rw [h3]; exact h0)), seqX_cons (mk_push1 hr hs _ _ _ _ _), h3, xor0 (last_i64 (hl x).1), List.append_nil]; rfl
  | .size x, p, m, s, hh, hn, hS, hp, hm, hz => by
    obtain ⟨t, ht⟩ := hh
    obtain ⟨h1, h2, h3⟩ := hS.stk x t ht
    simp only [comp, evalE, pushE, slotOf_eq ht]
    refine ⟨fun h => absurd rfl h, fun _ => ?_⟩
    rw [seqX_cons (mk_size hr _ _ _ _ _ _ h1 hsb h2), seqX_cons (mk_push1 hr hs _ _ _ _ _), h3, xor0 (by have := (hl x).2; unfold I64; omega), List.append_nil]; rfl
  | .item x a, p, m, s, hh, hn, hS, hp, hm, hz => by
    obtain ⟨⟨t, ht⟩, hha⟩ := hh
    obtain ⟨h1, h2, h3, h4⟩ := hS.arr x t ht
    simp only [Ex.dp] at hm
    obtain ⟨i1, i2⟩ := comp_run a p m s hha hn hS hp (by omega) hz
    simp only [comp, evalE, pushE, slotOf_eq ht]
    by_cases h0 : (evalE look a).2 = 0
    · have hrun := i2 h0
      have hv := evalE_range hl a hn
      rw [if_neg (by simp [h0])]
      generalize (evalE look a).1 = v at *
      rw [seqX_app hrun, seqX_cons (mk_pop1 hr hs _ _ _ _ _)]
      by_cases hb : v < 0 ∨ ((look x).length : Int) ≤ v
      · rw [if_pos hb]
        refine ⟨fun _ => ?_, fun h => absurd h (by decide)⟩
        rw [seqX_stop (by decide) (mk_idxF hr _ _ _ _ _ _ _ (by omega))]
      · rw [if_neg hb]
        refine ⟨fun h => absurd rfl h, fun _ => ?_⟩
        have hlt : (M.fp + t.pos + v).toNat < m.length := by omega
        have e4 := h4 v.toNat (by omega)
        rw [show M.fp + t.pos + (v.toNat : Int) = M.fp + t.pos + v by omega] at e4
        have hx : I64 (m.getD (M.fp + t.pos + v).toNat 0) := by rw [e4]; exact getD_i64 (hl x).1 _
        rw [seqX_cons (mk_idx hr _ _ _ _ _ _ _ (by omega) (by omega) (by omega) (by omega)), seqX_cons (mk_xor32 hr _ _ _ _ _), seqX_cons (mk_idx hr _ _ _ _ _ _ _ (by omega) (by omega) (by omega) (by rw [List.length_set]; omega)), seqX_cons (mk_push1 hr hs _ _ _ _ _), seqX_cons (mk_push3 hr hs _ _ _ _ _),
          getD_set_self _ _ _ _ hlt, List.set_set, set_self, xor0 hx, e4]
        simp only [seqX, List.append_assoc]
    · rw [if_pos h0]
      refine ⟨fun _ => ?_, fun h => absurd h h0⟩
      rw [seqX_fail (by rw [i1 h0]; exact h0)]; exact i1 h0
  | .un op a, p, m, s, hh, hn, hS, hp, hm, hz => by
    simp only [Ex.dp] at hm
    obtain ⟨i1, i2⟩ := comp_run a p m s hh hn hS hp (by omega) hz
    simp only [comp, evalE, pushE, List.append_assoc]
    by_cases h0 : (evalE look a).2 = 0
    · have hrun := i2 h0
      have hv := evalE_range hl a hn
      rw [if_neg (by simp [h0])]
      generalize (evalE look a).1 = v at *
      rw [seqX_app hrun, List.cons_append, seqX_cons (mk_pop1 hr hs _ _ _ _ _), List.nil_append]
      by_cases hop : op = 6
      · simp only [if_pos hop]
        refine ⟨fun h => absurd rfl h, fun _ => ?_⟩
        simp only [List.cons_append, List.nil_append]
        rw [seqX_cons (mk_xor31 hr _ _ _ _ _), seqX_cons (mk_neg3 hr _ _ _ _ _), seqX_cons (mk_push1 hr hs _ _ _ _ _), seqX_cons (mk_push3 hr hs _ _ _ _ _), xor0 hv]
        simp only [seqX, List.append_assoc, List.cons_append, List.nil_append]
      · simp only [if_neg hop]
        refine ⟨fun h => absurd rfl h, fun _ => ?_⟩
        simp only [List.cons_append, List.nil_append]
        have hap : apply 16 v 0 = (if v = 0 then 1 else 0, 0) := by unfold apply; simp
        rw [seqX_cons (M' := mk M v 0 (if v = 0 then 1 else 0) m (s ++ pushE look a)) (by rw [mk_calc hr, hap, if_neg (by simp), xor0 one_i64]), seqX_cons (mk_push1 hr hs _ _ _ _ _), seqX_cons (mk_push3 hr hs _ _ _ _ _)]
        simp only [seqX, List.append_assoc, List.cons_append, List.nil_append]
    · rw [if_pos h0]
      refine ⟨fun _ => ?_, fun h => absurd h h0⟩
      rw [seqX_fail (by rw [i1 h0]; exact h0)]; exact i1 h0
  | .bin op a b, p, m, s, hh, hn, hS, hp, hm, hz => by
    simp only [Ex.dp] at hm
    have hda : (a.dp : Int) ≤ ((max a.dp b.dp : Nat) : Int) := by omega
    have hdb : (b.dp : Int) ≤ ((max a.dp b.dp : Nat) : Int) := by omega
    obtain ⟨i1, i2⟩ := comp_run a p m s hh.1 hn.1 hS hp (by omega) hz
    simp only [comp, evalE, pushE, List.append_assoc]
    by_cases h0 : (evalE look a).2 = 0
    · have hrun := i2 h0
      have hv := evalE_range hl a hn.1
      rw [if_neg (by simp [h0])]
      generalize (evalE look a).1 = v at *
      have hk : M.fp + (cc + p) = M.fp + cc + p := by omega
      have hlt : (M.fp + cc + p).toNat < m.length := by omega
      rw [seqX_app hrun]
      simp only [List.cons_append, List.nil_append]
      rw [seqX_cons (mk_pop1 hr hs _ _ _ _ _), seqX_cons (mk_mem hr _ _ _ _ _ _ (by omega) (by omega)), hk, hz _ (by omega)]
      obtain ⟨j1, j2⟩ := comp_run b (p + 1) (m.set (M.fp + cc + p).toNat v) (s ++ pushE look a) hh.2 hn.2 (hS.far hfp _ (by omega) v) (by omega) (by rw [List.length_set]; omega) (fun j hj => by rw [getD_set_ne _ _ _ _ _ (by omega)]; exact hz j (by omega))
      by_cases h1 : (evalE look b).2 = 0
      · have hrun2 := j2 h1
        have hu := evalE_range hl b hn.2
        rw [if_neg (by simp [h1])]
        generalize (evalE look b).1 = u at *
        rw [seqX_app hrun2, seqX_cons (mk_pop2 hr hs _ _ _ _ _), seqX_cons (mk_mem hr _ _ _ _ _ _ (by omega) (by rw [List.length_set]; omega)), hk, getD_set_self _ _ _ _ hlt, List.set_set, show m.set (M.fp + cc + p).toNat 0 = m by rw [← hz (M.fp + cc + p).toNat (by omega)]; exact set_self _ _ _]
        by_cases h2 : (apply op v u).2 = 0
        · refine ⟨fun h => absurd h2 h, fun _ => ?_⟩
          rw [seqX_cons (M' := mk M v u (apply op v u).1 m (s ++ pushE look a ++ pushE look b)) (by rw [mk_calc hr, if_neg (by simp [h2]), xor0 (apply_range op hv hu)]), seqX_cons (mk_push1 hr hs _ _ _ _ _), seqX_cons (mk_push2 hr hs _ _ _ _ _), seqX_cons (mk_push3 hr hs _ _ _ _ _)]
          simp only [seqX, List.append_assoc, List.cons_append, List.nil_append]
        · refine ⟨fun _ => ?_, fun h => absurd h h2⟩
          rw [seqX_stop h2 (by rw [mk_calc hr, if_pos h2])]
      · rw [if_pos h1]
        refine ⟨fun _ => ?_, fun h => absurd h h1⟩
        rw [seqX_fail (by rw [j1 h1]; exact h1)]; exact j1 h1
    · rw [if_pos h0]
      refine ⟨fun _ => ?_, fun h => absurd h h0⟩
      rw [seqX_fail (by rw [i1 h0]; exact h0)]; exact i1 h0
end
end Bk

/- Plain: straight code as an image; its steps; its inverse. -/
set_option linter.unusedVariables false
set_option linter.unusedSimpArgs false
namespace Bk
open Go (World)
open Go.RowKit (wrap64)
/-- Valid straight code. -/
def LineI (i : Ins) : Prop := straightB i.op = true ∧ i.valid = true ∧ i.Wf
def Line (l : Prg) : Prop := ∀ i ∈ l, LineI i
theorem Line.get {l : Prg} (h : Line l) {k : Nat} (hk : k < l.length) : LineI (l.getD k default) := by
  rw [List.getD_eq_getElem?_getD, List.getElem?_eq_getElem hk]; exact h _ (List.getElem_mem hk)
theorem Line.wf {l : Prg} (h : Line l) : CodeWf l := fun k hk => (h.get hk).2.2
theorem Line.append {l r : Prg} (h : Line l) (h' : Line r) : Line (l ++ r) := fun i hi => (List.mem_append.1 hi).elim (h i) (h' i)
theorem Line.take {l : Prg} (h : Line l) (n : Nat) : Line (l.take n) := fun i hi => h i (List.mem_of_mem_take hi)
theorem LineI.noTarget {i : Ins} (h : LineI i) : i.target = (0, false) := by
  have h1 := h.1
  simp only [straightB, decide_eq_true_eq] at h1
  unfold Ins.target targetP
  rw [if_neg (by omega), if_neg (by omega)]
theorem Line.fault {l : Prg} (h : Line l) {k : Nat} (hk : k < l.length) : fault l k = 0 := by
  unfold Bk.fault
  simp only
  rw [if_neg (by rw [(h.get hk).2.1]; decide), if_pos (by rw [(h.get hk).noTarget])]
theorem Line.check {l : Prg} (h : Line l) {mem stacks : Int} (hl : l.length ≤ 65536) (hm : 0 ≤ mem ∧ mem ≤ 16384) (hs : 1 ≤ stacks ∧ stacks ≤ 16384) : (⟨l, mem, stacks⟩ : Img).check.2 = 0 := by
  unfold Img.check
  rw [if_pos (by unfold Img.sized; simp [hl, hm, hs]), checkFrom_all _ _ fun k hk => h.fault hk]
theorem line_step {l : Prg} (h : Line l) {j : Nat} (hj : j < l.length) (N : Mach) : Bk.step l (N.at_ j 1) =
    if (exec N (l.getD j default)).1 = 0 then (0, (exec N (l.getD j default)).2.at_ (j + 1) 1) else ((exec N (l.getD j default)).1, N.at_ j 1) := by
  have hs := (h.get hj).1
  simp only [straightB, decide_eq_true_eq] at hs
  rw [step_in j (by unfold nextAt Mach.at_; simp) hj (by omega) (h.get hj).2.1, if_neg (by omega), if_neg (by omega), if_neg (by simp only [jumpB, landB, decide_eq_true_eq]; omega)]
  have hd : (N.at_ j 1).dir = 1 := rfl
  simp only [hd]
  rw [show (if (1 : Int) < 0 then (l.getD j default).inverse else l.getD j default) = l.getD j default from if_neg (by decide), exec_at]
  by_cases h0 : (exec N (l.getD j default)).1 = 0
  · rw [if_pos h0, if_pos h0]; simp [Mach.at_]
  · rw [if_neg h0, if_neg h0]
theorem inv_lineI {i : Ins} (h : LineI i) : LineI i.inverse := by
  refine ⟨inv_straight h.1, inv_valid' h.2.1 h.2.2.op0, ?_⟩
  have := inv_range i.op h.2.2.op0 h.2.2.op1
  exact ⟨this.1, this.2, h.2.2.a0, h.2.2.a1, h.2.2.b0, h.2.2.b1, h.2.2.c0, h.2.2.c1, h.2.2.d0, h.2.2.d1⟩
/-- The inverse of code without targets. -/
def unl (l : Prg) : Prg := (l.map Ins.inverse).reverse
theorem unl_length (l : Prg) : (unl l).length = l.length := by simp [unl]
theorem unl_cons (i : Ins) (l : Prg) : unl (i :: l) = unl l ++ [i.inverse] := by simp [unl]
theorem Line.unl {l : Prg} (h : Line l) : Line (unl l) := by
  intro i hi
  simp only [Bk.unl, List.mem_reverse, List.mem_map] at hi
  obtain ⟨x, hx, rfl⟩ := hi
  exact inv_lineI (h x hx)
theorem seqX_undo : ∀ (l : Prg), Line l → ∀ (M M' : Mach), MOk M → seqX l M = (0, M') → MOk M' ∧ seqX (unl l) M' = (0, M)
  | [], _, M, M', hM, h => by
    simp only [seqX, Prod.mk.injEq, true_and] at h; subst h; exact ⟨hM, rfl⟩
  | i :: l, hl, M, M', hM, h => by
    simp only [seqX] at h
    by_cases h0 : (exec M i).1 = 0
    · rw [if_pos h0] at h
      have hi := hl i List.mem_cons_self
      obtain ⟨h1, h2⟩ := exec_undo hM hi.1 hi.2.1 (Prod.ext h0 rfl)
      obtain ⟨h3, h4⟩ := seqX_undo l (fun x hx => hl x (List.mem_cons_of_mem _ hx)) _ _ h1 h
      refine ⟨h3, ?_⟩
      rw [unl_cons, seqX_app h4]
      simp only [seqX, h2]; rfl
    · rw [if_neg h0] at h
      rw [h] at h0; exact absurd rfl h0
theorem seqX_take {l : Prg} {M : Mach} (n : Nat) : ((seqX (l.take n) M).1 ≠ 0 → seqX l M = seqX (l.take n) M) := by
  intro h
  conv => lhs; rw [← List.take_append_drop n l]
  exact seqX_fail h
/-- The machine behind the first j instructions, all of which went well. -/
theorem seqX_succ {l : Prg} {M N : Mach} {j : Nat} (hj : j < l.length) (h : seqX (l.take j) M = (0, N)) : seqX (l.take (j + 1)) M = if (exec N (l.getD j default)).1 = 0 then (0, (exec N (l.getD j default)).2) else exec N (l.getD j default) := by
  rw [List.take_succ_eq_append_getElem hj, seqX_app h, List.getD_eq_getElem?_getD, List.getElem?_eq_getElem hj]
  simp only [seqX, Option.getD_some]
/-- Expressions whose numbers are ints and whose operators are known. -/
def Ex.ok : Ex → Prop
  | .num v => 0 ≤ v ∧ I64 v
  | .item _ a => a.ok
  | .un op a => (op = 6 ∨ op = 7) ∧ a.ok
  | .bin op a b => (8 ≤ op ∧ op ≤ 23) ∧ a.ok ∧ b.ok
  | _ => True
theorem Ex.ok.nums : ∀ {e : Ex}, e.ok → e.nums
  | .num _, h => h.2
  | .var _, _ => trivial
  | .top _, _ => trivial
  | .size _, _ => trivial
  | .item _ a, h => Ex.ok.nums (e := a) h
  | .un _ a, h => Ex.ok.nums (e := a) h.2
  | .bin _ a b, h => ⟨Ex.ok.nums (e := a) h.2.1, Ex.ok.nums (e := b) h.2.2⟩
theorem Ex.ok_of {w : World} {B : Nat} {nb : ByteArray → Bool} : ∀ (e : Ex) (d : Nat) (x : Nd), EV w B nb e x → KV w B d x → e.ok
  | _, 0, _, _, hk => hk.elim
  | .num v, d + 1, x, h, hk => ⟨h.2.2.1, by have := hk.2.1; rw [h.2.1] at this; exact this⟩
  | .var _, _, _, _, _ => trivial
  | .top _, _, _, _, _ => trivial
  | .size _, _, _, _, _ => trivial
  | .item _ a, d + 1, x, h, hk => by
    obtain ⟨_, _, _, _, hn, y, hy, he⟩ := h
    obtain ⟨z, hz, hkz⟩ := hk.2.2.2.2.2 0 (by omega)
    exact Ex.ok_of a d z (by rw [← hy.one hz]; exact he) hkz
  | .un op a, d + 1, x, h, hk => by
    obtain ⟨_, hop, _, _, hn, y, hy, he⟩ := h
    obtain ⟨z, hz, hkz⟩ := hk.2.2.2.2.2 0 (by omega)
    exact ⟨hop, Ex.ok_of a d z (by rw [← hy.one hz]; exact he) hkz⟩
  | .bin op a b, d + 1, x, h, hk => by
    obtain ⟨_, hop, _, _, hn, y, y', hy, hy', he, he'⟩ := h
    obtain ⟨z, hz, hkz⟩ := hk.2.2.2.2.2 0 (by omega)
    obtain ⟨z', hz', hkz'⟩ := hk.2.2.2.2.2 1 (by omega)
    exact ⟨hop, Ex.ok_of a d z (by rw [← hy.one hz]; exact he) hkz, Ex.ok_of b d z' (by rw [← hy'.one hz']; exact he') hkz'⟩
instance (x : Int) : Decidable (I64 x) := by unfold I64; exact inferInstance
instance (i : Ins) : Decidable (i.Wf) := decidable_of_iff ((0 ≤ i.op ∧ i.op ≤ 255) ∧ I64 i.a ∧ I64 i.b ∧ I64 i.c ∧ I64 i.d) ⟨fun h => ⟨h.1.1, h.1.2, h.2.1.1, h.2.1.2, h.2.2.1.1, h.2.2.1.2, h.2.2.2.1.1, h.2.2.2.1.2, h.2.2.2.2.1, h.2.2.2.2.2⟩, fun h => ⟨⟨h.op0, h.op1⟩, ⟨h.a0, h.a1⟩, ⟨h.b0, h.b1⟩, ⟨h.c0, h.c1⟩, ⟨h.d0, h.d1⟩⟩⟩
instance (i : Ins) : Decidable (LineI i) := by unfold LineI; exact inferInstance
/-- The slots of a frame lie within its bounds. -/
def SlotsOk (sl : List St4) : Prop := ∀ t ∈ sl, (0 ≤ t.pos ∧ t.pos ≤ 16384) ∧ (t.k = 2 → 0 ≤ t.len ∧ t.len ≤ 16384)
theorem find_slot {sl : List St4} {s : ByteArray} {k : Int} {t : St4} (h : sl.find? (slotB s k) = some t) : t ∈ sl ∧ t.k = k ∧ (t.nm.toList == s.toList) = true := by
  have h1 := List.find?_some h
  simp only [slotB, Bool.and_eq_true, beq_iff_eq] at h1
  exact ⟨List.mem_of_find?_eq_some h, h1.2, by simpa using h1.1⟩
theorem line_one {op a b c d : Int} (h1 : straightB op = true) (h2 : validB op a b c d = true) (h3 : I64 a ∧ I64 b ∧ I64 c ∧ I64 d) : LineI ⟨op, a, b, c, d⟩ := by
  refine ⟨h1, h2, ?_⟩
  simp only [straightB, decide_eq_true_eq] at h1
  unfold I64 at h3
  exact ⟨by simp; omega, by simp; omega, h3.1.1, h3.1.2, h3.2.1.1, h3.2.1.2, h3.2.2.1.1, h3.2.2.1.2, h3.2.2.2.1, h3.2.2.2.2⟩
theorem line_6 {v : Int} (h : I64 v) : LineI ⟨6, 1, v, 0, 0⟩ := line_one (by decide) (by simp [validB, zerosB, arity, shapeB, regB]) ⟨by decide, h, by decide, by decide⟩
theorem line_10 {v : Int} (h : 0 ≤ v ∧ v ≤ 16384) : LineI ⟨10, 1, v, 0, 0⟩ := line_one (by decide) (by simp [validB, zerosB, arity, shapeB, regB, numB, h]) ⟨by decide, by unfold I64; omega, by decide, by decide⟩
theorem line_14 {v : Int} (h : 0 ≤ v ∧ v ≤ 16384) : LineI ⟨14, 1, v, 0, 0⟩ := line_one (by decide) (by simp [validB, zerosB, arity, shapeB, regB, numB, h]) ⟨by decide, by unfold I64; omega, by decide, by decide⟩
theorem line_15 {v : Int} (h : 0 ≤ v ∧ v ≤ 16384) : LineI ⟨15, 1, v, 0, 0⟩ := line_one (by decide) (by simp [validB, zerosB, arity, shapeB, regB, numB, h]) ⟨by decide, by unfold I64; omega, by decide, by decide⟩
theorem line_11 {v u : Int} (h : 0 ≤ v ∧ v ≤ 16384) (h' : 0 ≤ u ∧ u ≤ 16384) : LineI ⟨11, 2, 1, v, u⟩ := line_one (by decide) (by simp [validB, zerosB, arity, shapeB, regB, numB, h, h']) ⟨by decide, by decide, by unfold I64; omega, by unfold I64; omega⟩
theorem line_9 {v : Int} (h : 8 ≤ v ∧ v ≤ 23) : LineI ⟨9, 3, 1, 2, v⟩ := line_one (by decide) (by simp [validB, zerosB, arity, shapeB, regB, operB, h]) ⟨by decide, by decide, by decide, by unfold I64; omega⟩
theorem line_cons {i : Ins} {l : Prg} (h : LineI i) (h' : Line l) : Line (i :: l) := fun x hx => (List.mem_cons.1 hx).elim (fun e => e ▸ h) (h' x)
theorem line_nil : Line [] := fun _ h => by cases h
theorem comp_line {sl : List St4} {cc : Int} (hsl : SlotsOk sl) (hcc : 0 ≤ cc) : ∀ (e : Ex) (p : Int), e.held sl → e.ok → 0 ≤ p → cc + p + e.dp ≤ 16384 → Line (comp sl cc e p)
  | .num v, p, hh, ho, hp, hd => line_cons (line_6 ho.2) (line_cons (by decide) line_nil)
  | .var s, p, ⟨t, ht⟩, ho, hp, hd => by
    simp only [comp, slotOf_eq ht]
    have h1 := line_10 (hsl t (find_slot ht).1).1
    exact line_cons h1 (line_cons (by decide) (line_cons h1 (line_cons (by decide) line_nil)))
  | .top s, p, ⟨t, ht⟩, ho, hp, hd => by
    simp only [comp, slotOf_eq ht]
    exact line_cons (line_14 (hsl t (find_slot ht).1).1) (line_cons (by decide) line_nil)
  | .size s, p, ⟨t, ht⟩, ho, hp, hd => by
    simp only [comp, slotOf_eq ht]
    exact line_cons (line_15 (hsl t (find_slot ht).1).1) (line_cons (by decide) line_nil)
  | .item s a, p, ⟨⟨t, ht⟩, hh⟩, ho, hp, hd => by
    simp only [comp, slotOf_eq ht, Ex.dp] at hd ⊢
    have h0 := hsl t (find_slot ht).1
    have h1 := line_11 h0.1 (h0.2 (find_slot ht).2.1)
    exact (comp_line hsl hcc a p hh ho hp (by omega)).append (line_cons (by decide) (line_cons h1 (line_cons (by decide) (line_cons h1 (line_cons (by decide) (line_cons (by decide) line_nil))))))
  | .un op a, p, hh, ho, hp, hd => by
    simp only [comp, Ex.dp] at hd ⊢
    refine (((comp_line hsl hcc a p hh ho.2 hp (by omega)).append (line_cons (by decide) line_nil)).append ?_).append (line_cons (by decide) (line_cons (by decide) line_nil))
    split
    · exact line_cons (by decide) (line_cons (by decide) line_nil)
    · exact line_cons (by decide) line_nil
  | .bin op a b, p, hh, ho, hp, hd => by
    simp only [comp, Ex.dp] at hd ⊢
    have hda : (a.dp : Int) ≤ ((max a.dp b.dp : Nat) : Int) := by omega
    have hdb : (b.dp : Int) ≤ ((max a.dp b.dp : Nat) : Int) := by omega
    have h1 : LineI ⟨10, 1, cc + p, 0, 0⟩ := line_10 ⟨by omega, by omega⟩
    exact (((comp_line hsl hcc a p hh.1 ho.2.1 hp (by omega)).append (line_cons (by decide) (line_cons h1 line_nil))).append (comp_line hsl hcc b (p + 1) hh.2 ho.2.2 (by omega) (by omega))).append
      (line_cons (by decide) (line_cons h1 (line_cons (line_9 ho.1) (line_cons (by decide) (line_cons (by decide) (line_cons (by decide) line_nil))))))
end Bk

/- Plain: the machine of a case; its cells and stacks hold what the slots' variables hold. -/
set_option linter.unusedVariables false
set_option linter.unusedSimpArgs false
namespace Bk
open Go.RowKit (wrap64)
/-- The cells of the variables that are no stacks. -/
def memL : List Vr → List (List Int) → List Int
  | v :: vs, c :: cs => (if v.k = 3 then [] else c) ++ memL vs cs
  | _, _ => []
/-- The stacks of the variables. -/
def stkL : List Vr → List (List Int) → List (List Int)
  | v :: vs, c :: cs => (if v.k = 3 then [c] else []) ++ stkL vs cs
  | _, _ => []
def regsL (regs : List Int) : List Int := (List.range 16).map fun i => if 1 ≤ i ∧ i ≤ 3 then 0 else regs.getD i 0
/-- The machine of a case. -/
def caseM (vs : List Vr) (cs : List (List Int)) (fp sb : Nat) (regs scratch : List Int) : Mach :=
  { pc := 0, dir := 1, r := regsL regs, m := (List.range fp).map (fun i : Nat => 100 + (i : Int)) ++ (memL vs cs ++ List.replicate 80 0), s := scratch :: ((List.range sb).map (fun i : Nat => [201 + (i : Int)]) ++ stkL vs cs), calls := [], fp := fp, sb := sb, inp := [], out := [] }
def lookV : List Vr → List (List Int) → ByteArray → List Int
  | v :: vs, c :: cs, s => if v.nm.toList == s.toList then c else lookV vs cs s
  | _, _, _ => []
theorem Vr.Ok.fixed {v : Vr} (h : v.Ok) (h3 : v.k ≠ 3) : v.fixed = v.cells := by
  unfold Vr.Ok at h
  unfold Vr.fixed Vr.cells
  rw [if_neg h3]
  split <;> omega
theorem FitS.tail {v : Vr} {vs : List Vr} {c : List Int} {cs : List (List Int)} (h : FitS (v :: vs) (c :: cs)) : FitS vs cs :=
  ⟨by have := h.le; simp at this; omega, fun u hu => h.ok u (List.mem_cons_of_mem _ hu), by have := h.len; simpa using this,
    fun i u d hi hd => h.stk (i + 1) u d (by simpa using hi) (by simpa using hd), fun i u d hi hd => h.fix (i + 1) u d (by simpa using hi) (by simpa using hd)⟩
theorem memL_length : ∀ {vs : List Vr} {cs : List (List Int)}, FitS vs cs → ((memL vs cs).length : Int) = cellsOf vs
  | [], [], _ => rfl
  | v :: vs, c :: cs, h => by
    have ih := memL_length h.tail
    have ho := h.ok v List.mem_cons_self
    simp only [memL, cellsOf, List.map_cons, List.sum_cons, List.length_append] at ih ⊢
    by_cases h3 : v.k = 3
    · rw [if_pos h3]
      have : v.cells = 0 := by unfold Vr.cells; rw [if_pos h3]
      simp; omega
    · rw [if_neg h3]
      have := h.fix 0 v c rfl rfl h3
      rw [ho.fixed h3] at this
      omega
  | [], _ :: _, h => by have := h.len; simp at this
  | _ :: _, [], h => by have := h.len; simp at this
theorem stkL_length : ∀ {vs : List Vr} {cs : List (List Int)}, FitS vs cs → ((stkL vs cs).length : Int) = stksOf vs
  | [], [], _ => rfl
  | v :: vs, c :: cs, h => by
    have ih := stkL_length h.tail
    simp only [stkL, stksOf, List.map_cons, List.sum_cons, List.length_append, Vr.stk] at ih ⊢
    by_cases h3 : v.k = 3
    · rw [if_pos h3, if_pos h3]; simp; omega
    · rw [if_neg h3, if_neg h3]; simp; omega
  | [], _ :: _, h => by have := h.len; simp at this
  | _ :: _, [], h => by have := h.len; simp at this
/-- Where the variable of a found slot lies. -/
theorem slot_var : ∀ {vs : List Vr} {cs : List (List Int)}, FitS vs cs → ∀ {c0 s0 : Int} {s : ByteArray} {k : Int} {t : St4}, (slotsL vs c0 s0).find? (slotB s k) = some t →
    ∃ (i : Nat) (v : Vr) (c : List Int), vs[i]? = some v ∧ cs[i]? = some c ∧ (v.nm.toList == s.toList) = true ∧ v.k = k ∧ t.len = v.len ∧ (k ≠ 3 → ∃ A Z : List Int, memL vs cs = A ++ c ++ Z ∧ t.pos = c0 + A.length) ∧ (k = 3 → ∃ A Z : List (List Int), stkL vs cs = A ++ c :: Z ∧ t.pos = s0 + A.length + 1)
  | [], [], _, c0, s0, s, k, t, ht => by simp [slotsL] at ht
  | v :: vs, c :: cs, h, c0, s0, s, k, t, ht => by
    simp only [slotsL, List.find?_cons] at ht
    by_cases hb : slotB s k ⟨v.nm, v.k, v.len, if v.k = 3 then s0 + 1 else c0⟩ = true
    · rw [hb] at ht
      simp only [Option.some.injEq] at ht
      subst ht
      simp only [slotB, Bool.and_eq_true, beq_iff_eq] at hb
      refine ⟨0, v, c, rfl, rfl, by simpa using hb.1, hb.2, rfl, fun h3 => ⟨[], memL vs cs, ?_, ?_⟩, fun h3 => ⟨[], stkL vs cs, ?_, ?_⟩⟩
      · simp only [memL]; rw [if_neg (by rw [hb.2]; exact h3)]; rfl
      · simp only []; rw [if_neg (by rw [hb.2]; exact h3)]; simp
      · simp only [stkL]; rw [if_pos (by rw [hb.2]; exact h3)]; rfl
      · simp only []; rw [if_pos (by rw [hb.2]; exact h3)]; simp
    · rw [Bool.not_eq_true] at hb
      rw [hb] at ht
      obtain ⟨i, u, d, h1, h2, h4, h5, h6, h7, h8⟩ := slot_var h.tail ht
      refine ⟨i + 1, u, d, by simpa using h1, by simpa using h2, h4, h5, h6, fun hk => ?_, fun hk => ?_⟩
      · obtain ⟨A, Z, e1, e2⟩ := h7 hk
        have ho := h.ok v List.mem_cons_self
        simp only [memL, e1]
        by_cases h3 : v.k = 3
        · rw [if_pos h3]
          have : v.cells = 0 := by unfold Vr.cells; rw [if_pos h3]
          exact ⟨A, Z, by simp, by omega⟩
        · rw [if_neg h3]
          have hf := h.fix 0 v c rfl rfl h3
          rw [ho.fixed h3] at hf
          exact ⟨c ++ A, Z, by simp, by simp; omega⟩
      · obtain ⟨A, Z, e1, e2⟩ := h8 hk
        simp only [stkL, e1]
        by_cases h3 : v.k = 3
        · rw [if_pos h3]
          have : v.stk = 1 := by unfold Vr.stk; rw [if_pos h3]
          exact ⟨c :: A, Z, by simp, by simp; omega⟩
        · rw [if_neg h3]
          have : v.stk = 0 := by unfold Vr.stk; rw [if_neg h3]
          exact ⟨A, Z, by simp, by omega⟩
  | [], _ :: _, h, _, _, _, _, _, _ => by have := h.len; simp at this
  | _ :: _, [], h, _, _, _, _, _, _ => by have := h.len; simp at this
/-- No two variables have one name. -/
def Dist (vs : List Vr) : Prop := ∀ (i j : Nat) (v u : Vr), vs[i]? = some v → vs[j]? = some u → j < i → (v.nm.toList == u.nm.toList) = false
theorem beqL {a b : List UInt8} : (a == b) = true ↔ a = b := by simp
theorem look_at : ∀ {vs : List Vr} {cs : List (List Int)}, Dist vs → ∀ {i : Nat} {v : Vr} {c : List Int} {s : ByteArray}, vs[i]? = some v → cs[i]? = some c → (v.nm.toList == s.toList) = true → lookV vs cs s = c
  | [], _, _, i, v, c, s, h, _, _ => by simp at h
  | v :: vs, [], _, i, u, c, s, _, h, _ => by simp at h
  | v :: vs, c :: cs, hd, i, u, d, s, h1, h2, h3 => by
    simp only [lookV]
    cases i with
    | zero =>
      simp at h1 h2
      subst h1; subst h2
      rw [if_pos h3]
    | succ i =>
      have hne : ¬ (v.nm.toList == s.toList) = true := by
        intro hv
        have := hd (i + 1) 0 u v h1 rfl (by omega)
        rw [beqL] at hv h3
        rw [h3, hv] at this
        simp at this
      rw [if_neg hne]
      exact look_at (fun i j v u hi hj hlt => hd (i + 1) (j + 1) v u (by simpa using hi) (by simpa using hj) (by omega)) (by simpa using h1) (by simpa using h2) h3
theorem look_mem : ∀ (vs : List Vr) (cs : List (List Int)) (s : ByteArray), lookV vs cs s = [] ∨ lookV vs cs s ∈ cs
  | v :: vs, c :: cs, s => by
    simp only [lookV]
    split
    · exact .inr List.mem_cons_self
    · exact (look_mem vs cs s).imp id (List.mem_cons_of_mem _)
  | [], _, _ => .inl (by simp [lookV])
  | _ :: _, [], _ => .inl (by simp [lookV])
theorem case_m (vs : List Vr) (cs : List (List Int)) (fp sb : Nat) (regs scratch : List Int) (k : Nat) : (caseM vs cs fp sb regs scratch).m.getD (fp + k) 0 = (memL vs cs).getD k 0 := by
  simp only [caseM, List.getD_eq_getElem?_getD]
  rw [List.getElem?_append_right (by simp)]
  simp only [List.length_map, List.length_range, Nat.add_sub_cancel_left]
  rcases Nat.lt_or_ge k (memL vs cs).length with h | h
  · rw [List.getElem?_append_left h]
  · rw [List.getElem?_append_right h, List.getElem?_eq_none (l := memL vs cs) h]
    rcases Nat.lt_or_ge (k - (memL vs cs).length) 80 with h8 | h8
    · rw [List.getElem?_replicate, if_pos h8]; rfl
    · rw [List.getElem?_eq_none (by simpa using h8)]
theorem case_sees {vs : List Vr} {cs : List (List Int)} (hf : FitS vs cs) (hd : Dist vs) (fp sb : Nat) (regs scratch : List Int) :
    Sees (slotsL vs 0 0) (cellsOf vs) (lookV vs cs) (caseM vs cs fp sb regs scratch) (caseM vs cs fp sb regs scratch).m := by
  refine ⟨?_, ?_, ?_⟩
  · intro s t ht
    obtain ⟨i, v, c, h1, h2, h3, h4, h5, h6, _⟩ := slot_var hf ht
    obtain ⟨A, Z, e1, e2⟩ := h6 (by decide)
    have hl := memL_length hf
    have hc := hf.fix i v c h1 h2 (by omega)
    unfold Vr.fixed at hc; rw [if_pos h4] at hc
    match c, hc with
    | [x], _ =>
      rw [e1] at hl; simp at hl
      refine ⟨by omega, by omega, ?_⟩
      rw [look_at hd h1 h2 h3, show ((caseM vs cs fp sb regs scratch).fp + t.pos).toNat = fp + A.length by simp only [caseM]; omega, case_m, e1]
      simp
  · intro s t ht
    obtain ⟨i, v, c, h1, h2, h3, h4, h5, h6, _⟩ := slot_var hf ht
    obtain ⟨A, Z, e1, e2⟩ := h6 (by decide)
    have hl := memL_length hf
    have hc := hf.fix i v c h1 h2 (by omega)
    unfold Vr.fixed at hc; rw [if_neg (by omega)] at hc
    rw [e1] at hl; simp at hl
    rw [look_at hd h1 h2 h3]
    refine ⟨by omega, by omega, by omega, fun j hj => ?_⟩
    rw [show ((caseM vs cs fp sb regs scratch).fp + t.pos + (j : Int)).toNat = fp + (A.length + j) by simp only [caseM]; omega, case_m, e1]
    simp only [List.getD_eq_getElem?_getD]
    rw [List.append_assoc, List.getElem?_append_right (by omega), Nat.add_sub_cancel_left, List.getElem?_append_left hj]
  · intro s t ht
    obtain ⟨i, v, c, h1, h2, h3, h4, h5, _, h6⟩ := slot_var hf ht
    obtain ⟨A, Z, e1, e2⟩ := h6 rfl
    have hl := stkL_length hf
    rw [look_at hd h1 h2 h3]
    refine ⟨by omega, ?_, ?_⟩
    · simp only [caseM, e1]; simp; omega
    · simp only [caseM, Mach.stk, e1]
      rw [show ((sb : Int) + t.pos).toNat = (sb + A.length) + 1 by omega, List.getD_eq_getElem?_getD, List.getElem?_cons_succ, List.getElem?_append_right (by simp)]
      simp
/-- The machine of a case fits straight code. -/
theorem case_ok {vs : List Vr} {cs : List (List Int)} (hf : FitS vs cs) (hcs : ∀ c ∈ cs, ∀ x ∈ c, I64 x) (fp sb : Nat) (hfp : fp ≤ 20) (hsb : sb ≤ 5) (hv6 : vs.length ≤ 6) (regs scratch : List Int) (hre : ∀ x ∈ regs, I64 x) (hsc : ∀ x ∈ scratch, I64 x) :
    MOk (caseM vs cs fp sb regs scratch) := by
  have hm := memL_length hf
  have hst := stkL_length hf
  have hb := sums_le vs hf.ok
  have mm : ∀ {vs : List Vr} {cs : List (List Int)}, (∀ c ∈ cs, ∀ x ∈ c, I64 x) → ∀ x ∈ memL vs cs, I64 x := by
    intro vs
    induction vs with
    | nil => intro cs _ x hx; cases cs <;> simp [memL] at hx
    | cons v vs ih =>
      intro cs h x hx
      cases cs with
      | nil => simp [memL] at hx
      | cons c cs =>
        simp only [memL, List.mem_append] at hx
        rcases hx with hx | hx
        · split at hx
          · cases hx
          · exact h c List.mem_cons_self x hx
        · exact ih (fun d hd => h d (List.mem_cons_of_mem _ hd)) x hx
  have sm : ∀ {vs : List Vr} {cs : List (List Int)}, FitS vs cs → ∀ l ∈ stkL vs cs, l ∈ cs ∧ l.length ≤ 1000 := by
    intro vs
    induction vs with
    | nil => intro cs _ x hx; cases cs <;> simp [stkL] at hx
    | cons v vs ih =>
      intro cs h x hx
      cases cs with
      | nil => simp [stkL] at hx
      | cons c cs =>
        simp only [stkL, List.mem_append] at hx
        rcases hx with hx | hx
        · split at hx
          · rename_i h3
            simp at hx; subst hx
            exact ⟨List.mem_cons_self, h.stk 0 v x rfl rfl h3⟩
          · cases hx
        · obtain ⟨h1, h2⟩ := ih h.tail x hx
          exact ⟨List.mem_cons_of_mem _ h1, h2⟩
  refine ⟨by simp [caseM, regsL], ?_, ?_, ?_, by simp [caseM], by simp [caseM], ?_, by simp [caseM], by simp [caseM], by simp [caseM], by simp [caseM]; omega, by simp [caseM], by simp [caseM]; omega, by simp [caseM]⟩
  · intro x hx
    simp only [caseM, regsL, List.mem_map] at hx
    obtain ⟨i, _, rfl⟩ := hx
    split
    · exact i64_zero
    · exact getD_i64 hre i
  · intro x hx
    simp only [caseM, List.mem_append, List.mem_map, List.mem_range, List.mem_replicate] at hx
    rcases hx with ⟨i, hi, rfl⟩ | hx | ⟨_, rfl⟩
    · unfold I64; omega
    · exact mm hcs x hx
    · exact i64_zero
  · intro l hl x hx
    simp only [caseM, List.mem_cons, List.mem_append, List.mem_map, List.mem_range] at hl
    rcases hl with rfl | ⟨i, hi, rfl⟩ | hl
    · exact hsc x hx
    · simp at hx; subst hx; unfold I64; omega
    · exact hcs l (sm hf l hl).1 x hx
  · intro k hk
    have hmem : (caseM vs cs fp sb regs scratch).s.getD k [] = [] ∨ ∃ l ∈ ((List.range sb).map (fun i : Nat => [201 + (i : Int)]) ++ stkL vs cs), (caseM vs cs fp sb regs scratch).s.getD k [] = l := by
      obtain ⟨j, rfl⟩ : ∃ j, k = j + 1 := ⟨k - 1, by omega⟩
      simp only [caseM, List.getD_eq_getElem?_getD, List.getElem?_cons_succ]
      rcases Nat.lt_or_ge j ((List.range sb).map (fun i : Nat => [201 + (i : Int)]) ++ stkL vs cs).length with h | h
      · exact .inr ⟨_, List.getElem_mem h, by rw [List.getElem?_eq_getElem h]; rfl⟩
      · rw [List.getElem?_eq_none h]; exact .inl rfl
    rcases hmem with h | ⟨l, hl, h⟩
    · rw [h]; simp
    · rw [h]
      simp only [List.mem_append, List.mem_map, List.mem_range] at hl
      rcases hl with ⟨i, hi, rfl⟩ | hl
      · simp
      · exact (sm hf l hl).2
/-- What is known is held. -/
theorem known_find {vs : List Vr} {s : ByteArray} {k : Int} (h : ∃ v ∈ vs, v.nm = s ∧ v.k = k) : ∀ c0 s0, ∃ t, (slotsL vs c0 s0).find? (slotB s k) = some t := by
  induction vs with
  | nil => obtain ⟨v, hv, _⟩ := h; cases hv
  | cons u vs ih =>
    intro c0 s0
    simp only [slotsL, List.find?_cons]
    by_cases hb : slotB s k ⟨u.nm, u.k, u.len, if u.k = 3 then s0 + 1 else c0⟩ = true
    · rw [hb]; exact ⟨_, rfl⟩
    · rw [Bool.not_eq_true] at hb
      rw [hb]
      obtain ⟨v, hv, h1, h2⟩ := h
      rcases List.mem_cons.1 hv with rfl | hv
      · simp [slotB, h1, h2] at hb
      · exact ih ⟨v, hv, h1, h2⟩ _ _
theorem known_held {vs : List Vr} : ∀ {e : Ex}, e.known vs → e.held (slotsL vs 0 0)
  | .num _, _ => trivial
  | .var _, h => known_find h 0 0
  | .top _, h => known_find h 0 0
  | .size _, h => known_find h 0 0
  | .item _ a, h => ⟨known_find h.1 0 0, known_held (e := a) h.2⟩
  | .un _ a, h => known_held (e := a) h
  | .bin _ a b, h => ⟨known_held (e := a) h.1, known_held (e := b) h.2⟩
theorem slots_ok {vs : List Vr} {cs : List (List Int)} (hf : FitS vs cs) : SlotsOk (slotsL vs 0 0) := by
  have key : ∀ (vs : List Vr), (∀ v ∈ vs, v.Ok) → ∀ c0 s0 : Int, 0 ≤ c0 → 0 ≤ s0 → ∀ t ∈ slotsL vs c0 s0, (0 ≤ t.pos ∧ t.pos ≤ c0 + s0 + 17 * vs.length) ∧ (t.k = 2 → 0 ≤ t.len ∧ t.len ≤ 16384) := by
    intro vs
    induction vs with
    | nil => intro _ _ _ _ _ t ht; cases ht
    | cons v vs ih =>
      intro ho c0 s0 hc hs t ht
      have hv := ho v List.mem_cons_self
      have hb := hv.b
      simp only [slotsL, List.mem_cons] at ht
      simp only [List.length_cons]
      rcases ht with rfl | ht
      · refine ⟨by simp only []; split <;> omega, fun h2 => ?_⟩
        simp only [] at h2 ⊢
        unfold Vr.Ok at hv
        omega
      · have := ih (fun u hu => ho u (List.mem_cons_of_mem _ hu)) (c0 + v.cells) (s0 + v.stk) (by omega) (by omega) t ht
        refine ⟨by omega, this.2⟩
  intro t ht
  have h1 := key vs hf.ok 0 0 (by omega) (by omega) t ht
  have := hf.le
  exact ⟨by omega, h1.2⟩
end Bk

/- Plain: what straight code keeps. -/
set_option linter.unusedVariables false
set_option linter.unusedSimpArgs false
namespace Bk
open Go (World)
theorem seqX_keep : ∀ (l : Prg) (M : Mach), (seqX l M).1 = 0 → KeepB M (seqX l M)
  | [], M, _ => ⟨rfl, rfl, rfl, rfl, rfl⟩
  | i :: l, M, h => by
    simp only [seqX] at h ⊢
    by_cases h0 : (exec M i).1 = 0
    · rw [if_pos h0] at h ⊢
      obtain ⟨a1, a2, a3, a4, a5⟩ := exec_keeps M i
      obtain ⟨b1, b2, b3, b4, b5⟩ := seqX_keep l _ h
      exact ⟨b1.trans a1, b2.trans a2, b3.trans a3, b4.trans a4, b5.trans a5⟩
    · rw [if_neg h0] at h; exact absurd h h0
theorem seqX_sb {K : Nat} : ∀ (l : Prg) {M : Mach}, SB K M → SB (K + l.length) (seqX l M).2
  | [], M, h => h
  | i :: l, M, h => by
    simp only [seqX]
    by_cases h0 : (exec M i).1 = 0
    · rw [if_pos h0]
      have := seqX_sb (K := K + 1) l (h.exec i)
      exact this.mono (by simp; omega)
    · rw [if_neg h0]; exact (h.exec i).mono (by simp)
/-- What straight code wants of a machine. -/
structure Runs (M : Mach) (n : Nat) : Prop where
  ok : MOk M
  cl : M.calls = []
  ml : M.m.length ≤ 16384
  sl : M.s.length ≤ 16384
  sb : SB 10000000000 M
  n : n ≤ 65536
theorem Runs.next {l : Prg} {M N : Mach} {n : Nat} (h : Runs M n) (hl : Line l) (hs : seqX l M = (0, N)) : MOk N ∧ N.calls = [] ∧ N.m.length = M.m.length ∧ N.s.length = M.s.length ∧ SB (10000000000 + l.length) N := by
  have hk := seqX_keep l M (by rw [hs])
  have hb := seqX_sb l h.sb
  rw [hs] at hk hb
  exact ⟨(seqX_undo l hl M N h.ok hs).1, hk.2.2.1.trans h.cl, hk.2.2.2.1, hk.2.2.2.2, hb⟩
/-- A machine behind some straight code fits its image, and its bounds. -/
theorem Runs.fit {l : Prg} {M N : Mach} (h : Runs M l.length) (hl : Line l) {j : Nat} (hj : j ≤ l.length) (hs : seqX (l.take j) M = (0, N)) :
    Fit ⟨l, M.m.length, M.s.length⟩ (N.at_ j 1) ∧ MBd (N.at_ j 1) := by
  obtain ⟨h1, h2, h3, h4, h5⟩ := h.next (hl.take j) hs
  have hm := h.ml; have hsl := h.sl; have hn := h.n
  have ht : (l.take j).length ≤ 65536 := by rw [List.length_take]; omega
  have s1 := h.ok.s1
  have hf : Fit ⟨l, M.m.length, M.s.length⟩ (N.at_ j 1) := ⟨h1.at_ _ _, .inl rfl, by show (0 : Int) ≤ j; omega, by show (j : Int) ≤ l.length; omega, by show (N.m.length : Int) = M.m.length; omega, by show (N.s.length : Int) = M.s.length; omega, by show N.calls.length ≤ 100; rw [h2]; decide, by show ∀ a ∈ N.calls, _; rw [h2]; intro a ha; cases ha⟩
  refine ⟨hf, MBd.of (hl.check h.n ⟨by omega, by omega⟩ ⟨by omega, by omega⟩) hf (h5 : SB _ (N.at_ j 1)) (by omega)⟩
end Bk

/- Plain: the code of an expression on the machine of a case. -/
set_option linter.unusedVariables false
set_option linter.unusedSimpArgs false
namespace Bk
open Go.RowKit (wrap64)
/-- A machine on which the code of an expression can be run. -/
structure Good (sl : List St4) (cc : Int) (look : ByteArray → List Int) (M : Mach) : Prop where
  ok : MOk M
  c0 : 0 ≤ cc
  lk : ∀ s, (∀ x ∈ look s, I64 x) ∧ (look s).length ≤ 1000000
  sees : Sees sl cc look M M.m
  len : M.fp + cc + 40 ≤ M.m.length
  z : ∀ j : Nat, M.fp + cc ≤ j → M.m.getD j 0 = 0
  r1 : M.reg 1 = 0
  r2 : M.reg 2 = 0
  r3 : M.reg 3 = 0
theorem Good.run {sl : List St4} {cc : Int} {look : ByteArray → List Int} {M : Mach} (g : Good sl cc look M) {e : Ex} (hh : e.held sl) (hn : e.nums) (hd : e.dp ≤ 40) :
    ((evalE look e).2 ≠ 0 → (seqX (comp sl cc e 0) M).1 = (evalE look e).2) ∧ ((evalE look e).2 = 0 → seqX (comp sl cc e 0) M = (0, M.setS 0 (M.stk 0 ++ pushE look e ++ [(evalE look e).1]))) := by
  have h := comp_run g.ok.rl g.ok.s1 g.ok.fp0 g.ok.sb0 g.c0 g.lk e 0 M.m (M.stk 0) hh hn g.sees (by omega) (by have := g.len; omega) (fun j hj => g.z j (by omega))
  rw [mk_self g.r1 g.r2 g.r3] at h
  refine ⟨h.1, fun h0 => ?_⟩
  rw [h.2 h0, mk_setS0 g.r1 g.r2 g.r3]
theorem Good.back {sl : List St4} {cc : Int} {look : ByteArray → List Int} {M : Mach} (g : Good sl cc look M) {e : Ex} (hh : e.held sl) (hn : e.nums) (hd : e.dp ≤ 40) (hl : Line (comp sl cc e 0)) (h0 : (evalE look e).2 = 0) :
    seqX (unl (comp sl cc e 0)) (M.setS 0 (M.stk 0 ++ pushE look e ++ [(evalE look e).1])) = (0, M) :=
  (seqX_undo _ hl M _ g.ok ((g.run hh hn hd).2 h0)).2
theorem FitS.len1 {vs : List Vr} {cs : List (List Int)} (h : FitS vs cs) : ∀ c ∈ cs, c.length ≤ 1000 := by
  intro c hc
  obtain ⟨i, hi, rfl⟩ := List.mem_iff_getElem.1 hc
  have hv : i < vs.length := by have := h.len; omega
  have e1 := List.getElem?_eq_getElem hv; have e2 := List.getElem?_eq_getElem hi
  have ho := h.ok _ (List.getElem_mem hv)
  by_cases h3 : vs[i].k = 3
  · exact h.stk i _ _ e1 e2 h3
  · have := h.fix i _ _ e1 e2 h3
    rw [ho.fixed h3] at this
    have := ho.b
    omega
theorem regs_zero (regs : List Int) (k : Nat) (h : 1 ≤ k ∧ k ≤ 3) : (regsL regs).getD k 0 = 0 := by
  simp only [regsL, List.getD_eq_getElem?_getD]
  rw [List.getElem?_map, List.getElem?_range (by omega)]
  simp [h]
section
variable {vs : List Vr} {cs : List (List Int)} (hf : FitS vs cs) (hd : Dist vs) (hcs : ∀ c ∈ cs, ∀ x ∈ c, I64 x) (fp sb : Nat) (hfp : fp ≤ 20) (hsb : sb ≤ 5) (hv6 : vs.length ≤ 6) (regs scr : List Int) (hre : ∀ x ∈ regs, I64 x) (hsc : ∀ x ∈ scr, I64 x) (hs50 : scr.length ≤ 50)
include hf hd hcs hfp hsb hv6 hre hsc
theorem case_good : Good (slotsL vs 0 0) (cellsOf vs) (lookV vs cs) (caseM vs cs fp sb regs scr) := by
  have hm := memL_length hf
  have hb := sums_le vs hf.ok
  refine ⟨case_ok hf hcs fp sb hfp hsb hv6 regs scr hre hsc, hb.1, fun s => ?_, case_sees hf hd fp sb regs scr, ?_, fun j hj => ?_, regs_zero regs 1 (by omega), regs_zero regs 2 (by omega), regs_zero regs 3 (by omega)⟩
  · rcases look_mem vs cs s with h | h
    · rw [h]; simp
    · exact ⟨hcs _ h, by have := hf.len1 _ h; omega⟩
  · simp only [caseM, List.length_append, List.length_map, List.length_range, List.length_replicate]; omega
  · simp only [caseM] at hj
    obtain ⟨k, rfl⟩ : ∃ k, j = fp + k := ⟨j - fp, by omega⟩
    rw [case_m, List.getD_eq_getElem?_getD, List.getElem?_eq_none (by omega)]; rfl
include hs50
omit hd in
theorem case_runs {n : Nat} (hn : n ≤ 65536) : Runs (caseM vs cs fp sb regs scr) n := by
  have hm := memL_length hf
  have hst := stkL_length hf
  have hb := sums_le vs hf.ok
  have hin : ∀ {vs : List Vr} {cs : List (List Int)}, ∀ l ∈ stkL vs cs, l ∈ cs := by
    intro vs
    induction vs with
    | nil => intro cs x hx; cases cs <;> simp [stkL] at hx
    | cons v vs ih =>
      intro cs x hx
      cases cs with
      | nil => simp [stkL] at hx
      | cons c cs =>
        simp only [stkL, List.mem_append] at hx
        rcases hx with hx | hx
        · split at hx
          · simp at hx; subst hx; exact List.mem_cons_self
          · cases hx
        · exact List.mem_cons_of_mem _ (ih x hx)
  refine ⟨case_ok hf hcs fp sb hfp hsb hv6 regs scr hre hsc, rfl, ?_, ?_, ?_, hn⟩
  · simp only [caseM, List.length_append, List.length_map, List.length_range, List.length_replicate]; omega
  · simp only [caseM, List.length_cons, List.length_append, List.length_map, List.length_range]; omega
  · intro l hl
    simp only [caseM, List.mem_cons, List.mem_append, List.mem_map, List.mem_range] at hl
    rcases hl with rfl | ⟨i, _, rfl⟩ | hl
    · omega
    · simp
    · have := hf.len1 _ (hin l hl); omega
end
/-! The case x + 1. -/
def vs0 : List Vr := [⟨⟨#[120]⟩, 1, 0⟩]
def ex0 : Ex := .bin 8 (.var ⟨#[120]⟩) (.num 1)
theorem fits0 : FitS vs0 [[4]] := by
  refine ⟨by decide, ?_, rfl, ?_, ?_⟩
  · intro v hv; simp [vs0] at hv; subst hv; exact .inl ⟨.inl rfl, rfl⟩
  · intro i v c hv hc h3
    match i, hv with
    | 0, hv => simp [vs0] at hv; subst hv; cases h3
  · intro i v c hv hc h3
    match i, hv, hc with
    | 0, hv, hc => simp [vs0] at hv hc; subst hv; subst hc; rfl
theorem dist0 : Dist vs0 := by
  intro i j v u hv hu hlt
  match i, hv with
  | 0, hv => omega
theorem known0 : ex0.known vs0 := ⟨⟨_, List.mem_cons_self, rfl, rfl⟩, trivial⟩
theorem ok0 : ex0.ok := ⟨by omega, trivial, by omega, by unfold I64; omega⟩
end Bk
