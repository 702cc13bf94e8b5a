/- Plain: what With does on a machine, given what its use does. -/
import Derived.Test.YtbijhlgdilkopaaDoorEcX
set_option linter.unusedVariables false
set_option linter.unusedSimpArgs false
namespace Bk
open Go.RowKit (wrap64)
/-- With, from what its parts do: the code, the pop, the use, the push, the inverse code. -/
theorem with_run {l u : Prg} {M N M1 M2 N1 N2 : Mach} (h1 : seqX l M = (0, M1)) (h2 : exec M1 ⟨13, 4, 0, 0, 0⟩ = (0, M2)) (h3 : seqX u M2 = (0, N1)) (h4 : exec N1 ⟨12, 4, 0, 0, 0⟩ = (0, N2)) (h5 : seqX (unl l) N2 = (0, N)) :
    seqX (l ++ [⟨13, 4, 0, 0, 0⟩] ++ u ++ [⟨12, 4, 0, 0, 0⟩] ++ unl l) M = (0, N) := by
  have e2 : seqX [⟨13, 4, 0, 0, 0⟩] M1 = (0, M2) := by rw [seqX_cons h2]; rfl
  have e4 : seqX [⟨12, 4, 0, 0, 0⟩] N1 = (0, N2) := by rw [seqX_cons h4]; rfl
  simp only [List.append_assoc]
  rw [seqX_app h1, seqX_app e2, seqX_app h3, seqX_app e4, h5]
/-- The code of an expression that fails: With fails as it does. -/
theorem with_fail {l u : Prg} {M : Mach} (h : (seqX l M).1 ≠ 0) : (seqX (l ++ [⟨13, 4, 0, 0, 0⟩] ++ u ++ [⟨12, 4, 0, 0, 0⟩] ++ unl l) M).1 = (seqX l M).1 := by
  simp only [List.append_assoc]
  rw [seqX_fail h]
theorem setS_twice (M : Mach) (a b : List Int) : (M.setS 0 a).setS 0 b = M.setS 0 b := by simp [Mach.setS]
theorem pop4 {M : Mach} {S : List Int} {v : Int} (hs : 1 ≤ M.s.length) (h4 : M.reg 4 = 0) : exec (M.setS 0 (S ++ [v])) ⟨13, 4, 0, 0, 0⟩ = (0, (M.setS 0 S).setR 4 v) := by
  have h0 : (M.setS 0 (S ++ [v])).stk 0 = S ++ [v] := stk_setS M 0 _ (by show 0 < M.s.length; omega)
  have hl : ((M.setS 0 (S ++ [v])).s.length : Int) = M.s.length := by simp [Mach.setS]
  have hr : (M.setS 0 (S ++ [v])).reg 4 = 0 := h4
  rw [exec_13]; unfold stack
  rw [show find (M.setS 0 (S ++ [v])) (⟨13, 4, 0, 0, 0⟩ : Ins).b = 0 from rfl, hl, if_neg (by omega), if_neg (by decide), if_neg (by decide), h0, if_neg (by simp), if_neg (by decide), if_neg (by show ¬ (M.setS 0 (S ++ [v])).reg 4 ≠ 0; rw [hr]; simp), setS_twice, List.dropLast_concat, List.getLastD_concat]
theorem push4 {M : Mach} {S : List Int} {v : Int} (hs : 1 ≤ M.s.length) (hr : M.r.length = 16) (h4 : M.reg 4 = 0) : exec ((M.setS 0 S).setR 4 v) ⟨12, 4, 0, 0, 0⟩ = (0, M.setS 0 (S ++ [v])) := by
  have h0 : ((M.setS 0 S).setR 4 v).stk 0 = S := stk_setS M 0 _ (by show 0 < M.s.length; omega)
  have hl : (((M.setS 0 S).setR 4 v).s.length : Int) = M.s.length := by simp [Mach.setS, Mach.setR]
  have hg : ((M.setS 0 S).setR 4 v).reg 4 = v := by simp [Mach.setR, Mach.setS, Mach.reg, hr]
  rw [exec_12]; unfold stack
  rw [show find ((M.setS 0 S).setR 4 v) (⟨12, 4, 0, 0, 0⟩ : Ins).b = 0 from rfl, hl, if_neg (by omega), if_neg (by decide), if_pos rfl, if_neg (by simp), h0]
  have e : ((M.setS 0 S).setR 4 v).reg (⟨12, 4, 0, 0, 0⟩ : Ins).a = v := hg
  rw [e]
  have e2 : M.r.set 4 0 = M.r := by
    have h4' : M.r.getD 4 0 = 0 := h4
    rw [List.getD_eq_getElem?_getD, List.getElem?_eq_getElem (by omega)] at h4'
    have h5 : M.r[4]'(by omega) = 0 := h4'
    conv => lhs; rw [← h5]
    exact List.set_getElem_self _
  simp [Mach.setS, Mach.setR, e2]
/-- With on machines that can run the code: if its use turns M into N (beside the stack 0 and R4), so does With. -/
theorem with_good {sl : List St4} {cc : Int} {look : ByteArray → List Int} {M N : Mach} (gM : Good sl cc look M) (gN : Good sl cc look N) (hk : N.stk 0 = M.stk 0) (h4 : M.reg 4 = 0) (h4' : N.reg 4 = 0) {e : Ex} (hh : e.held sl) (hn : e.nums) (hd : e.dp ≤ 40) (hl : Line (comp sl cc e 0)) (h0 : (evalE look e).2 = 0) {u : Prg}
    (hu : seqX u ((M.setS 0 (M.stk 0 ++ pushE look e)).setR 4 (evalE look e).1) = (0, (N.setS 0 (M.stk 0 ++ pushE look e)).setR 4 (evalE look e).1)) :
    seqX (comp sl cc e 0 ++ [⟨13, 4, 0, 0, 0⟩] ++ u ++ [⟨12, 4, 0, 0, 0⟩] ++ unl (comp sl cc e 0)) M = (0, N) := by
  have s1 : 1 ≤ M.s.length := gM.ok.s1
  have s2 : 1 ≤ N.s.length := gN.ok.s1
  have hb := gN.back hh hn hd hl h0
  rw [hk] at hb
  exact with_run ((gM.run hh hn hd).2 h0) (pop4 s1 h4) hu (push4 s2 gN.ok.rl h4') hb
/-- .. and where the expression fails, With fails as it does. -/
theorem with_bad {sl : List St4} {cc : Int} {look : ByteArray → List Int} {M : Mach} (gM : Good sl cc look M) {e : Ex} (hh : e.held sl) (hn : e.nums) (hd : e.dp ≤ 40) (h0 : (evalE look e).2 ≠ 0) {u : Prg} :
    (seqX (comp sl cc e 0 ++ [⟨13, 4, 0, 0, 0⟩] ++ u ++ [⟨12, 4, 0, 0, 0⟩] ++ unl (comp sl cc e 0)) M).1 = (evalE look e).2 := by
  have h := (gM.run hh hn hd).1 h0
  rw [with_fail (by rw [h]; exact h0), h]
end Bk
