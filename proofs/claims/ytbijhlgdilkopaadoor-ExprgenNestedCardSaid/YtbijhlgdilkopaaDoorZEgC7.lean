/- Plain: With on the machine of a case, with the uses of the laws. -/
import Derived.Test.YtbijhlgdilkopaaDoorZEgC6
import Derived.Test.YtbijhlgdilkopaaDoorEeX
set_option linter.unusedVariables false
set_option linter.unusedSimpArgs false
namespace Bk
open Go.RowKit (wrap64)
/-- Code can still be run where only other registers, other frames' cells and stack 0 are changed. -/
theorem Good.move {sl : List St4} {cc : Int} {look : ByteArray → List Int} {M N : Mach} (g : Good sl cc look M) (ok : MOk N) (hfp : N.fp = M.fp) (hsb : N.sb = M.sb) (hml : N.m.length = M.m.length) (hm : ∀ j : Nat, M.fp ≤ j → N.m.getD j 0 = M.m.getD j 0) (hsl : N.s.length = M.s.length) (hs : ∀ k : Int, 1 ≤ k → N.stk k = M.stk k)
    (h1 : N.reg 1 = M.reg 1) (h2 : N.reg 2 = M.reg 2) (h3 : N.reg 3 = M.reg 3) : Good sl cc look N := by
  have f0 := g.ok.fp0
  have b0 := g.ok.sb0
  refine ⟨ok, g.c0, g.lk, ⟨?_, ?_, ?_⟩, by rw [hfp, hml]; exact g.len, fun j hj => ?_, h1.trans g.r1, h2.trans g.r2, h3.trans g.r3⟩
  · intro s t ht
    obtain ⟨a1, a2, a3⟩ := g.sees.var s t ht
    exact ⟨a1, a2, by rw [hfp, hm _ (by omega)]; exact a3⟩
  · intro s t ht
    obtain ⟨a1, a2, a3, a4⟩ := g.sees.arr s t ht
    exact ⟨a1, a2, a3, fun i hi => by rw [hfp, hm _ (by omega)]; exact a4 i hi⟩
  · intro s t ht
    obtain ⟨a1, a2, a3⟩ := g.sees.stk s t ht
    exact ⟨a1, by rw [hsb, hsl]; exact a2, by rw [hsb, hs _ (by omega)]; exact a3⟩
  · rw [hfp] at hj
    have := g.c0
    rw [hm j (by omega)]; exact g.z j hj
theorem reg_setR_ne {M : Mach} {a b : Int} (v : Int) (h : a.toNat ≠ b.toNat) : (M.setR a v).reg b = M.reg b := by
  simp only [Mach.reg, Mach.setR]
  exact getD_set_ne _ _ _ _ _ h
theorem reg_setR_eq {M : Mach} {a : Int} (v : Int) (h : a.toNat < M.r.length) : (M.setR a v).reg a = v := by
  simp [Mach.reg, Mach.setR, List.getD_eq_getElem?_getD, h]
theorem Good.setR {sl : List St4} {cc : Int} {look : ByteArray → List Int} {M : Mach} (g : Good sl cc look M) {a : Int} {v : Int} (ha : 4 ≤ a) (hv : I64 v) : Good sl cc look (M.setR a v) :=
  g.move (g.ok.setR a hv) rfl rfl rfl (fun _ _ => rfl) rfl (fun _ _ => rfl) (reg_setR_ne v (by omega)) (reg_setR_ne v (by omega)) (reg_setR_ne v (by omega))
theorem MOk.setM {M : Mach} (h : MOk M) (k : Int) {v : Int} (hv : I64 v) : MOk (M.setM k v) :=
  ⟨h.rl, h.rr, fun x hx => (List.mem_or_eq_of_mem_set hx).elim (h.mr x) (fun e => e ▸ hv), h.sr, h.ir, h.or_, h.sl, h.inl, h.outl, h.fp0, by simp only [Mach.setM, List.length_set]; exact h.fp1, h.sb0, h.sb1, h.s1⟩
theorem Good.setM {sl : List St4} {cc : Int} {look : ByteArray → List Int} {M : Mach} (g : Good sl cc look M) {k : Int} {v : Int} (hk : 0 ≤ k ∧ k < M.fp) (hv : I64 v) : Good sl cc look (M.setM k v) :=
  g.move (g.ok.setM k hv) rfl rfl (by simp [Mach.setM]) (fun j hj => by simp only [Mach.setM]; exact getD_set_ne _ _ _ _ _ (by omega)) rfl (fun _ _ => rfl) rfl rfl rfl
theorem Good.setS0 {sl : List St4} {cc : Int} {look : ByteArray → List Int} {M : Mach} (g : Good sl cc look M) {l : List Int} (hl : ∀ x ∈ l, I64 x) : Good sl cc look (M.setS 0 l) :=
  g.move (g.ok.setS 0 hl (fun h => absurd h (by decide))) rfl rfl rfl (fun _ _ => rfl) (by simp [Mach.setS]) (fun k hk => by simp only [Mach.stk, Mach.setS]; exact getD_set_ne _ _ _ _ _ (by have : (0 : Int).toNat = 0 := rfl; omega)) rfl rfl rfl
theorem pushE_i64 {look : ByteArray → List Int} (hl : ∀ s, (∀ x ∈ look s, I64 x) ∧ (look s).length ≤ 1000000) : ∀ e : Ex, e.nums → ∀ x ∈ pushE look e, I64 x
  | .num v, _, x, hx => by cases hx
  | .var s, _, x, hx => by cases hx
  | .top s, _, x, hx => by cases hx
  | .size s, _, x, hx => by cases hx
  | .item s a, h, x, hx => by
    simp only [pushE, List.mem_append, List.mem_singleton] at hx
    rcases hx with hx | rfl
    · exact pushE_i64 hl a h x hx
    · exact evalE_range hl a h
  | .un op a, h, x, hx => by
    simp only [pushE, List.mem_append, List.mem_singleton] at hx
    rcases hx with hx | rfl
    · exact pushE_i64 hl a h x hx
    · exact evalE_range hl a h
  | .bin op a b, h, x, hx => by
    simp only [pushE, List.mem_append, List.mem_cons, List.mem_nil_iff, or_false] at hx
    rcases hx with (hx | hx) | rfl | rfl
    · exact pushE_i64 hl a h.1 x hx
    · exact pushE_i64 hl b h.2 x hx
    · exact evalE_range hl a h.1
    · exact evalE_range hl b h.2
theorem stk_i64 {M : Mach} (h : MOk M) : ∀ x ∈ M.stk 0, I64 x := h.stk 0
theorem setRS (M : Mach) (a v k : Int) (l : List Int) : (M.setR a v).setS k l = (M.setS k l).setR a v := rfl
/-- The use that adds R4 to R7, and may add 3 to a cell of another frame. -/
def use0 : Prg := [⟨1, 7, 4, 0, 0⟩]
def useF (fp k : Int) : Prg := [⟨1, 7, 4, 0, 0⟩, ⟨29, fp, 0, 0, 0⟩, ⟨10, 6, k, 0, 0⟩, ⟨4, 6, 3, 0, 0⟩, ⟨10, 6, k, 0, 0⟩, ⟨28, fp, 0, 0, 0⟩]
section
variable {sl : List St4} {cc : Int} {look : ByteArray → List Int} {M : Mach} (gM : Good sl cc look M) (h4 : M.reg 4 = 0) {e : Ex} (hh : e.held sl) (hn : e.nums) (hd : e.dp ≤ 40) (hl : Line (comp sl cc e 0)) (h0 : (evalE look e).2 = 0)
include gM
theorem add74 {S : List Int} {v : Int} : exec ((M.setS 0 S).setR 4 v) ⟨1, 7, 4, 0, 0⟩ = (0, ((M.setR 7 (wrap64 (M.reg 7 + v))).setS 0 S).setR 4 v) := by
  have hr := gM.ok.rl
  rw [exec_1, reg_setR_ne (a := 4) (b := 7) v (by decide), reg_setR_eq (a := 4) v (by show 4 < M.r.length; omega), show ((M.setS 0 S).setR 4 v).setR 7 (wrap64 ((M.setS 0 S).reg 7 + v)) = ((M.setR 7 (wrap64 (M.reg 7 + v))).setS 0 S).setR 4 v by
    simp only [Mach.setR, Mach.setS, Mach.reg]; rw [List.set_comm _ _ (show (4 : Int).toNat ≠ (7 : Int).toNat by decide)]]
include h4 hh hn hd hl h0
theorem with_use0 : seqX (withL (comp sl cc e 0) use0) M = (0, M.setR 7 (wrap64 (M.reg 7 + (evalE look e).1))) := by
  refine with_good gM (gM.setR (by decide) (wrap64_range _)) rfl h4 ((reg_setR_ne _ (by decide)).trans h4) hh hn hd hl h0 ?_
  rw [use0, seqX_cons (add74 gM)]; rfl
theorem with_useF {k : Nat} (hk : (k : Int) < M.fp) : seqX (withL (comp sl cc e 0) (useF M.fp k)) M = (0, (M.setM k (wrap64 (M.m.getD k 0 + 3))).setR 7 (wrap64 (M.reg 7 + (evalE look e).1))) := by
  have hf0 := gM.ok.fp0
  have hf1 := gM.ok.fp1
  have hs0 := gM.ok.sb0
  have hs1 := gM.ok.sb1
  have hr := gM.ok.rl
  have gN : Good sl cc look ((M.setM k (wrap64 (M.m.getD k 0 + 3))).setR 7 (wrap64 (M.reg 7 + (evalE look e).1))) := (gM.setM ⟨by omega, hk⟩ (wrap64_range _)).setR (by decide) (wrap64_range _)
  refine with_good gM gN rfl h4 ((reg_setR_ne _ (by decide)).trans h4) hh hn hd hl h0 ?_
  generalize (evalE look e).1 = v
  generalize M.stk 0 ++ pushE look e = S
  rw [useF, seqX_cons (add74 gM)]
  obtain ⟨M1, hM1⟩ : ∃ M1, ((M.setR 7 (wrap64 (M.reg 7 + v))).setS 0 S).setR 4 v = M1 := ⟨_, rfl⟩
  rw [hM1]
  have q1 : M1.fp = M.fp := by rw [← hM1]; rfl
  have q2 : M1.sb = M.sb := by rw [← hM1]; rfl
  have q3 : M1.m = M.m := by rw [← hM1]; rfl
  have q4 : M1.s.length = M.s.length := by rw [← hM1]; simp [Mach.setR, Mach.setS]
  have q5 : M1.r.length = 16 := by rw [← hM1]; simp [Mach.setR, Mach.setS, hr]
  have kl : k < M.m.length := by omega
  obtain ⟨M2, hM2⟩ : ∃ M2 : Mach, M2 = { M1 with fp := 0 } := ⟨_, rfl⟩
  have p1 : M2.fp = 0 := by rw [hM2]
  have p2 : M2.sb = M.sb := by rw [hM2]; exact q2
  have p3 : M2.m = M.m := by rw [hM2]; exact q3
  have p4 : M2.s.length = M.s.length := by rw [hM2]; exact q4
  have p5 : M2.r.length = 16 := by rw [hM2]; exact q5
  have e2 : exec M1 ⟨29, M.fp, 0, 0, 0⟩ = (0, M2) := by
    rw [exec_29]; unfold shift
    rw [if_neg (by rw [q1, q2, q3, q4]; omega), hM2, q1, show M.fp + -M.fp = 0 by omega, show M1.sb + -0 = M1.sb by omega]
  rw [seqX_cons e2]
  obtain ⟨a, ha⟩ : ∃ a, M.m.getD k 0 = a := ⟨_, rfl⟩
  have e3 : exec M2 ⟨10, 6, k, 0, 0⟩ = (0, (M2.setR 6 a).setM k (M2.reg 6)) := by
    rw [exec_10]; unfold exchange
    rw [p1, p3, show (0 : Int) + (k : Int) = k by omega, if_neg (by omega), Int.toNat_natCast, ha]
  rw [seqX_cons e3]
  have e4 : exec ((M2.setR 6 a).setM k (M2.reg 6)) ⟨4, 6, 3, 0, 0⟩ = (0, (M2.setR 6 (wrap64 (a + 3))).setM k (M2.reg 6)) := by
    rw [exec_4]
    rw [show ((M2.setR 6 a).setM k (M2.reg 6)).reg 6 = a from reg_setR_eq (M := M2) (a := 6) _ (by show 6 < M2.r.length; omega)]
    simp only [Mach.setM, Mach.setR, List.set_set]
  rw [seqX_cons e4]
  have e5 : exec ((M2.setR 6 (wrap64 (a + 3))).setM k (M2.reg 6)) ⟨10, 6, k, 0, 0⟩ = (0, M2.setM k (wrap64 (a + 3))) := by
    rw [exec_10]; unfold exchange
    have hm : ((M2.setR 6 (wrap64 (a + 3))).setM k (M2.reg 6)).m = M.m.set k (M2.reg 6) := by simp [Mach.setM, Mach.setR, p3]
    have hf : ((M2.setR 6 (wrap64 (a + 3))).setM k (M2.reg 6)).fp = 0 := p1
    have hg : ((M2.setR 6 (wrap64 (a + 3))).setM k (M2.reg 6)).reg 6 = wrap64 (a + 3) := reg_setR_eq (M := M2) (a := 6) _ (by show 6 < M2.r.length; omega)
    have e6 : (M.m.set k (M2.reg 6)).getD k 0 = M2.reg 6 := by simp [List.getD_eq_getElem?_getD, kl]
    rw [hm, hf, hg, show (0 : Int) + (k : Int) = k by omega, if_neg (by rw [List.length_set]; omega), Int.toNat_natCast, e6]
    have e7 : M2.r.set 6 (M2.reg 6) = M2.r := set_self M2.r 6 0
    simp only [Mach.setM, Mach.setR, List.set_set, Int.toNat_natCast]
    rw [show (6 : Int).toNat = 6 from rfl, e7]
  rw [seqX_cons e5]
  have e8 : exec (M2.setM k (wrap64 (a + 3))) ⟨28, M.fp, 0, 0, 0⟩ = (0, M1.setM k (wrap64 (a + 3))) := by
    rw [exec_28]; unfold shift
    have g1 : (M2.setM k (wrap64 (a + 3))).fp = 0 := p1
    have g2 : (M2.setM k (wrap64 (a + 3))).sb = M.sb := p2
    have g3 : (M2.setM k (wrap64 (a + 3))).m.length = M.m.length := by simp [Mach.setM, p3]
    have g4 : (M2.setM k (wrap64 (a + 3))).s.length = M.s.length := p4
    rw [g1, g2, g3, g4, if_neg (by omega)]
    rw [hM2]
    simp only [Mach.setM]
    rw [show (0 : Int) + M.fp = M1.fp by omega, show M.sb + 0 = M1.sb by omega]
  rw [seqX_cons e8, ← hM1, ha]
  rfl
end
/-- The use of the outer computation: the value is moved to R5, and the second computation's value is subtracted from it into R8. -/
def useC : Prg := [⟨9, 8, 5, 4, 9⟩]
def useN (l : Prg) : Prg := [⟨7, 4, 5, 0, 0⟩] ++ withL l useC ++ [⟨7, 4, 5, 0, 0⟩]
theorem list16' {r : List Int} (h : r.length = 16) : ∃ r0 r1 r2 r3 r4 r5 r6 r7 r8 r9 r10 r11 r12 r13 r14 r15, r = [r0, r1, r2, r3, r4, r5, r6, r7, r8, r9, r10, r11, r12, r13, r14, r15] := by
  match r, h with
  | [r0, r1, r2, r3, r4, r5, r6, r7, r8, r9, r10, r11, r12, r13, r14, r15], _ => exact ⟨_, _, _, _, _, _, _, _, _, _, _, _, _, _, _, _, rfl⟩
theorem with_swap {M : Mach} (hr : M.r.length = 16) (h4 : M.reg 4 = 0) (h5 : M.reg 5 = 0) {v : Int} {S : List Int} : exec ((M.setS 0 S).setR 4 v) ⟨7, 4, 5, 0, 0⟩ = (0, (M.setS 0 S).setR 5 v) := by
  obtain ⟨r0, r1, r2, r3, r4, r5, r6, r7, r8, r9, r10, r11, r12, r13, r14, r15, h⟩ := list16' hr
  simp [Mach.reg, h] at h4 h5
  subst h4; subst h5
  rw [exec_7]
  simp [Mach.setR, Mach.setS, Mach.reg, h]
theorem with_swap2 {M : Mach} (hr : M.r.length = 16) (h4 : M.reg 4 = 0) (h5 : M.reg 5 = 0) {v x : Int} {S : List Int} : exec ((M.setR 8 x).setS 0 S |>.setR 5 v) ⟨7, 4, 5, 0, 0⟩ = (0, ((M.setR 8 x).setS 0 S).setR 4 v) := by
  obtain ⟨r0, r1, r2, r3, r4, r5, r6, r7, r8, r9, r10, r11, r12, r13, r14, r15, h⟩ := list16' hr
  simp [Mach.reg, h] at h4 h5
  subst h4; subst h5
  rw [exec_7]
  simp [Mach.setR, Mach.setS, Mach.reg, h]
section
variable {sl : List St4} {cc : Int} {look : ByteArray → List Int} {M : Mach} (gM : Good sl cc look M) (h4 : M.reg 4 = 0) {e e' : Ex} (hh : e.held sl) (hn : e.nums) (hd : e.dp ≤ 40) (hh' : e'.held sl) (hn' : e'.nums) (hd' : e'.dp ≤ 40) (h5 : M.reg 5 = 0)
include gM hh hn hd
theorem nested_bad1 {u : Prg} (h0 : (evalE look e).2 ≠ 0) : (seqX (withL (comp sl cc e 0) u) M).1 = (evalE look e).2 := with_bad gM hh hn hd h0
include h4 hh' hn' hd' h5
theorem with_nested (hl : Line (comp sl cc e 0)) (hl' : Line (comp sl cc e' 0)) (h0 : (evalE look e).2 = 0) (h0' : (evalE look e').2 = 0) : seqX (withL (comp sl cc e 0) (useN (comp sl cc e' 0))) M = (0, M.setR 8 (xor64 (M.reg 8) (wrap64 ((evalE look e).1 - (evalE look e').1)))) := by
  have hr := gM.ok.rl
  refine with_good gM (gM.setR (by decide) (xor_range _ _)) rfl h4 ((reg_setR_ne _ (by decide)).trans h4) hh hn hd hl h0 ?_
  have hv := evalE_range gM.lk e hn
  have hS : ∀ x ∈ M.stk 0 ++ pushE look e, I64 x := fun x hx => (List.mem_append.1 hx).elim (stk_i64 gM.ok x) (pushE_i64 gM.lk e hn x)
  generalize (evalE look e).1 = v at hv ⊢
  generalize M.stk 0 ++ pushE look e = S at hS ⊢
  rw [useN, List.append_assoc, List.singleton_append, seqX_cons (with_swap hr h4 h5)]
  have gI : Good sl cc look ((M.setS 0 S).setR 5 v) := (gM.setS0 hS).setR (by decide) hv
  have gJ : Good sl cc look (((M.setR 8 (xor64 (M.reg 8) (wrap64 (v - (evalE look e').1)))).setS 0 S).setR 5 v) := ((gM.setR (by decide) (xor_range _ _)).setS0 hS).setR (by decide) hv
  have r4 : ((M.setS 0 S).setR 5 v).reg 4 = 0 := (reg_setR_ne v (by decide)).trans h4
  have r4' : (((M.setR 8 (xor64 (M.reg 8) (wrap64 (v - (evalE look e').1)))).setS 0 S).setR 5 v).reg 4 = 0 := (reg_setR_ne v (by decide)).trans ((reg_setR_ne (M := M) _ (by decide)).trans h4)
  have hin : seqX (withL (comp sl cc e' 0) useC) ((M.setS 0 S).setR 5 v) = (0, ((M.setR 8 (xor64 (M.reg 8) (wrap64 (v - (evalE look e').1)))).setS 0 S).setR 5 v) := by
    refine with_good gI gJ rfl r4 r4' hh' hn' hd' hl' h0' ?_
    generalize (evalE look e').1 = u
    generalize ((M.setS 0 S).setR 5 v).stk 0 ++ pushE look e' = T
    obtain ⟨r0, r1, r2, r3, r4, r5, r6, r7, r8, r9, r10, r11, r12, r13, r14, r15, h⟩ := list16' hr
    have ex : exec ((((M.setS 0 S).setR 5 v).setS 0 T).setR 4 u) ⟨9, 8, 5, 4, 9⟩ = (0, ((((M.setR 8 (xor64 (M.reg 8) (wrap64 (v - u)))).setS 0 S).setR 5 v).setS 0 T).setR 4 u) := by
      rw [exec_9]
      have a5 : ((((M.setS 0 S).setR 5 v).setS 0 T).setR 4 u).reg 5 = v := by simp [Mach.setR, Mach.setS, Mach.reg, h]
      have a4 : ((((M.setS 0 S).setR 5 v).setS 0 T).setR 4 u).reg 4 = u := by simp [Mach.setR, Mach.setS, Mach.reg, h]
      have a8 : ((((M.setS 0 S).setR 5 v).setS 0 T).setR 4 u).reg 8 = M.reg 8 := by simp [Mach.setR, Mach.setS, Mach.reg, h]
      rw [a5, a4, a8, show apply 9 v u = (wrap64 (v - u), 0) from rfl, if_neg (by simp)]
      simp [Mach.setR, Mach.setS, Mach.reg, h]
    rw [useC, seqX_cons ex]; rfl
  rw [seqX_app hin, seqX_cons (with_swap2 hr h4 h5)]; rfl
theorem nested_bad2 (h0 : (evalE look e).2 = 0) (h0' : (evalE look e').2 ≠ 0) : (seqX (withL (comp sl cc e 0) (useN (comp sl cc e' 0))) M).1 = (evalE look e').2 := by
  have hv := evalE_range gM.lk e hn
  have hS : ∀ x ∈ M.stk 0 ++ pushE look e, I64 x := fun x hx => (List.mem_append.1 hx).elim (stk_i64 gM.ok x) (pushE_i64 gM.lk e hn x)
  have hrun := (gM.run hh hn hd).2 h0
  have s1 : 1 ≤ M.s.length := gM.ok.s1
  have hp := pop4 (v := (evalE look e).1) (S := M.stk 0 ++ pushE look e) s1 h4
  have hsw := with_swap (v := (evalE look e).1) (S := M.stk 0 ++ pushE look e) gM.ok.rl h4 h5
  generalize (evalE look e).1 = v at hv hrun hp hsw
  generalize M.stk 0 ++ pushE look e = S at hS hrun hp hsw
  have gI : Good sl cc look ((M.setS 0 S).setR 5 v) := (gM.setS0 hS).setR (by decide) hv
  have hb := with_bad gI hh' hn' hd' h0' (u := useC)
  have hb' : (seqX (withL (comp sl cc e' 0) useC) ((M.setS 0 S).setR 5 v)).1 = (evalE look e').2 := hb
  have hne : (seqX (withL (comp sl cc e' 0) useC) ((M.setS 0 S).setR 5 v)).1 ≠ 0 := by rw [hb']; exact h0'
  have e2 : seqX [⟨13, 4, 0, 0, 0⟩] (M.setS 0 (S ++ [v])) = (0, (M.setS 0 S).setR 4 v) := by rw [seqX_cons hp]; rfl
  have e3 : seqX [⟨7, 4, 5, 0, 0⟩] ((M.setS 0 S).setR 4 v) = (0, (M.setS 0 S).setR 5 v) := by rw [seqX_cons hsw]; rfl
  have : (seqX (useN (comp sl cc e' 0)) ((M.setS 0 S).setR 4 v)).1 = (evalE look e').2 := by
    rw [useN, List.append_assoc, seqX_app e3, seqX_fail hne, hb']
  have hne2 : (seqX (useN (comp sl cc e' 0)) ((M.setS 0 S).setR 4 v)).1 ≠ 0 := by rw [this]; exact h0'
  rw [withL]
  simp only [List.append_assoc]
  rw [seqX_app hrun, seqX_app e2, seqX_fail hne2, this]
end
/-! Valid straight code. -/
theorem line_with {l u : Prg} (h : Line l) (hu : Line u) : Line (withL l u) :=
  (((h.append (line_cons (by decide) line_nil)).append hu).append (line_cons (by decide) line_nil)).append h.unl
theorem line_use0 : Line use0 := line_cons (by decide) line_nil
theorem line_28 {v : Int} (h : 0 ≤ v ∧ v ≤ 16384) : LineI ⟨28, v, 0, 0, 0⟩ := line_one (by decide) (by simp [validB, zerosB, arity, shapeB, regB, numB, h]) ⟨by unfold I64; omega, by decide, by decide, by decide⟩
theorem line_29 {v : Int} (h : 0 ≤ v ∧ v ≤ 16384) : LineI ⟨29, v, 0, 0, 0⟩ := line_one (by decide) (by simp [validB, zerosB, arity, shapeB, regB, numB, h]) ⟨by unfold I64; omega, by decide, by decide, by decide⟩
theorem line_106 {v : Int} (h : 0 ≤ v ∧ v ≤ 16384) : LineI ⟨10, 6, v, 0, 0⟩ := line_one (by decide) (by simp [validB, zerosB, arity, shapeB, regB, numB, h]) ⟨by decide, by unfold I64; omega, by decide, by decide⟩
theorem line_useF {fp k : Int} (h : 0 ≤ fp ∧ fp ≤ 16384) (hk : 0 ≤ k ∧ k ≤ 16384) : Line (useF fp k) :=
  line_cons (by decide) (line_cons (line_29 h) (line_cons (line_106 hk) (line_cons (by decide) (line_cons (line_106 hk) (line_cons (line_28 h) line_nil)))))
theorem line_useC : Line useC := line_cons (by decide) line_nil
theorem line_useN {l : Prg} (h : Line l) : Line (useN l) :=
  ((line_cons (by decide) line_nil : Line [⟨7, 4, 5, 0, 0⟩]).append (line_with h line_useC)).append (line_cons (by decide) line_nil)
end Bk
