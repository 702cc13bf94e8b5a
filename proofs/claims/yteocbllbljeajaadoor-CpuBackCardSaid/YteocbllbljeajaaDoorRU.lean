/- Several texts in one: RcP RcU RcW RcX. -/
import Derived.Test.YteocbllbljeajaaDoorR1
import Derived.Test.YteocbllbljeajaaDoorR3
import Derived.Test.YteocbllbljeajaaDoorR2
import Derived.Test.YteocbllbljeajaaDoorR4
import Derived.Test.YteocbllbljeajaaDoorRX
import Derived.Test.YteocbllbljeajaaDoorZCpuN
import Derived.Test.YteocbllbljeajaaDoorRQ
import Derived.Test.YteocbllbljeajaaDoorLwG
set_option linter.unusedVariables false
set_option linter.unusedSimpArgs false
/- The reference of layer 24: straight, at every valid instruction that is followed by the next one. -/
set_option maxRecDepth 100000
set_option linter.unusedVariables false
set_option linter.unusedSimpArgs false
namespace Go.Proofs.YteocbllbljeajaaDoor
open Go.RowKit Bk
variable {w : World} {D : Nat → Prop} {P : Pl} {M : Mach} {vm vs vc vi vo : Value} {sv : List Value}
theorem onM_to {P : Pl} {x y : Int × Mach} {w : World} {f : FuncId} {args : Array Value} (e : y = x) (h : Calls Tryd.prog f args w (OnM P x w)) : Calls Tryd.prog f args w (OnM P y w) := by rw [e]; exact h
theorem rs_stack (h : MOn w P M vm vs vc vi vo sv) (hB : MBd M) (hs : 1 ≤ M.s.length) (op : Int) (hop : op = 12 ∨ op = 13 ∨ op = 14 ∨ op = 15) (a : Nat) (ha : a < 16) (i c d : Int) (i0 : 0 ≤ i) (i1 : i ≤ 16384) :
    SC w P (op) ((a : Nat)) (i) (c) (d) (stack M ⟨op, a, i, c, d⟩) := by
  unfold SC
  by_cases hk : (M.s.length : Int) ≤ find M i
  · exact onM_to (by unfold stack; rw [if_pos hk]) (rs_stackOut h hB op hop a ha i c d i0 i1 hk hs)
  obtain ⟨f, hf⟩ : ∃ f : Nat, find M i = f := ⟨(find M i).toNat, by have := hB.s0; unfold find; split <;> omega⟩
  have hfl : f < M.s.length := by omega
  rcases hop with rfl | rfl | rfl | rfl
  · by_cases hz : f ≠ 0 ∧ 1000 ≤ (M.stk f).length
    · refine onM_to ?_ (rs_12_full h hB a f ha i c d i0 i1 hf hfl hz.1 hz.2)
      unfold stack; simp only [hf]; rw [if_neg (by omega), if_neg (by omega), if_pos trivial, if_pos ⟨by omega, hz.2⟩]
    · have e : stack M ⟨12, a, i, c, d⟩ = (0, (M.setS f (M.stk f ++ [M.reg a])).setR a 0) := by
        unfold stack; simp only [hf]; rw [if_neg (by omega), if_neg (by omega), if_pos trivial, if_neg (by omega)]
      by_cases h0 : f = 0
      · exact onM_to e (rs_12a h hB a f ha i c d i0 i1 hf hfl h0)
      · exact onM_to e (rs_12b h hB a f ha i c d i0 i1 hf hfl h0 (by omega))
  · by_cases he : (M.stk f).length = 0
    · refine onM_to ?_ (rs_13_empty h hB a f ha i c d i0 i1 hf hfl he)
      unfold stack; simp only [hf]; rw [if_neg (by omega), if_neg (by omega), if_neg (by omega), if_pos he]
    · by_cases hr : M.reg a = 0
      · refine onM_to ?_ (rs_13 h hB a f ha i c d i0 i1 hf hfl he hr)
        unfold stack; simp only [hf]; rw [if_neg (by omega), if_neg (by omega), if_neg (by omega), if_neg he, if_neg (by omega), if_neg (by omega)]; rfl
      · refine onM_to ?_ (rs_13_clear h hB a f ha i c d i0 i1 hf hfl he hr)
        unfold stack; simp only [hf]; rw [if_neg (by omega), if_neg (by omega), if_neg (by omega), if_neg he, if_neg (by omega), if_pos hr]
  · by_cases he : (M.stk f).length = 0
    · refine onM_to ?_ (rs_14_empty h hB a f ha i c d i0 i1 hf hfl he)
      unfold stack; simp only [hf]; rw [if_neg (by omega), if_neg (by omega), if_neg (by omega), if_pos he]
    · refine onM_to ?_ (rs_14 h hB a f ha i c d i0 i1 hf hfl he)
      unfold stack; simp only [hf]; rw [if_neg (by omega), if_neg (by omega), if_neg (by omega), if_neg he, if_pos trivial]
  · refine onM_to ?_ (rs_15 h hB a f ha i c d i0 i1 hf hfl)
    unfold stack; simp only [hf]; rw [if_neg (by omega), if_pos trivial]
theorem rs_transfer (h : MOn w P M vm vs vc vi vo sv) (hB : MBd M) (op : Int) (hop : op = 17 ∨ op = 18 ∨ op = 19 ∨ op = 20) (a : Nat) (ha : a < 16) (i c d : Int) :
    SC w P (op) ((a : Nat)) (i) (c) (d) (transfer M ⟨op, a, i, c, d⟩) := by
  unfold SC
  rcases hop with rfl | rfl | rfl | rfl
  · by_cases h0 : M.inp.length = 0
    · refine onM_to ?_ (rs_17_none h hB a ha i c d h0)
      unfold transfer; simp only; rw [if_neg (by omega), if_pos (by first | omega | (simp; omega) | (simp_all; done) | (simp_all; omega))]
    · by_cases hr : M.reg a = 0
      · refine onM_to ?_ (rs_17 h hB a ha i c d h0 hr)
        unfold transfer; simp only; rw [if_neg (by omega), if_neg (by omega), if_neg (by omega), if_pos trivial]
      · refine onM_to ?_ (rs_17_clear h hB a ha i c d h0 hr)
        unfold transfer; simp only; rw [if_neg (by omega), if_neg (by omega), if_pos ⟨by simp, hr⟩]
  · by_cases hf : M.inp.length < 4096
    · refine onM_to ?_ (rs_18 h hB a ha i c d hf)
      unfold transfer; simp only; rw [if_neg (by omega), if_neg (by omega), if_neg (by omega), if_neg (by omega), if_pos trivial]; rfl
    · refine onM_to ?_ (rs_18_full h hB a ha i c d (by omega))
      unfold transfer; simp only; rw [if_pos (by first | omega | (simp; omega) | (simp_all; done) | (simp_all; omega))]
  · by_cases hf : M.out.length < 4096
    · refine onM_to ?_ (rs_19 h hB a ha i c d hf)
      unfold transfer; simp only; rw [if_neg (by omega), if_neg (by omega), if_neg (by omega), if_neg (by omega), if_neg (by omega), if_pos trivial]; rfl
    · refine onM_to ?_ (rs_19_full h hB a ha i c d (by omega))
      unfold transfer; simp only; rw [if_pos (by first | omega | (simp; omega) | (simp_all; done) | (simp_all; omega))]
  · by_cases h0 : M.out.length = 0
    · refine onM_to ?_ (rs_20_none h hB a ha i c d h0)
      unfold transfer; simp only; rw [if_neg (by omega), if_pos (by first | omega | (simp; omega) | (simp_all; done) | (simp_all; omega))]
    · by_cases hr : M.reg a = 0
      · refine onM_to ?_ (rs_20 h hB a ha i c d h0 hr)
        unfold transfer; simp only; rw [if_neg (by omega), if_neg (by omega), if_neg (by omega), if_neg (by omega), if_neg (by omega), if_neg (by omega)]
      · refine onM_to ?_ (rs_20_clear h hB a ha i c d h0 hr)
        unfold transfer; simp only; rw [if_neg (by omega), if_neg (by omega), if_pos ⟨by simp, hr⟩]
theorem rs_swap (h : MOn w P M vm vs vc vi vo sv) (hB : MBd M) (hs : 1 ≤ M.s.length) (x y : Int) (x0 : 0 ≤ x) (x1 : x ≤ 16384) (y0 : 0 ≤ y) (y1 : y ≤ 16384) (c d : Int) :
    SC w P (16) (x) (y) (c) (d) (swapS M x y) := by
  unfold SC
  obtain ⟨fa, hfa⟩ : ∃ fa : Nat, find M x = fa := ⟨(find M x).toNat, by have := hB.s0; unfold find; split <;> omega⟩
  obtain ⟨fb, hfb⟩ : ∃ fb : Nat, find M y = fb := ⟨(find M y).toNat, by have := hB.s0; unfold find; split <;> omega⟩
  by_cases ha : fa < M.s.length
  case neg =>
    have e : swapS M x y = (12, M) := by unfold swapS; rw [if_pos (by omega)]
    by_cases hb : fb < M.s.length
    · exact onM_to e (rs_16_oi h hB x y x0 x1 y0 y1 c d hs fb (by omega) hfb hb)
    · exact onM_to e (rs_16_oo h hB x y x0 x1 y0 y1 c d hs (by omega) (by omega))
  by_cases hb : fb < M.s.length
  case neg =>
    have e : swapS M x y = (12, M) := by unfold swapS; rw [if_neg (by omega), if_pos (by omega)]
    exact onM_to e (rs_16_io h hB x y x0 x1 y0 y1 c d hs fa (by omega) hfa ha)
  have e : swapS M x y = if (fa : Int) ≠ 0 ∧ 1000 < (M.stk fb).length ∨ (fb : Int) ≠ 0 ∧ 1000 < (M.stk fa).length then (5, M) else (0, { M with s := (M.s.set fa (M.stk fb)).set fb (M.stk fa) }) := by
    unfold swapS; rw [hfa, hfb, if_neg (by omega), if_neg (by omega)]; rfl
  by_cases c1 : fa = 0
  · by_cases c3 : fb = 0
    · exact onM_to (by rw [e, if_neg (by omega)]) (rs_16_s3 h hB x y x0 x1 y0 y1 c d fa fb hfa ha hfb hb c1 c3)
    · by_cases c4 : 1000 < (M.stk fa).length
      · exact onM_to (by rw [e, if_pos (.inr ⟨by omega, c4⟩)]) (rs_16_f3 h hB x y x0 x1 y0 y1 c d fa fb hfa ha hfb hb c1 c3 c4)
      · exact onM_to (by rw [e, if_neg (by omega)]) (rs_16_s4 h hB x y x0 x1 y0 y1 c d fa fb hfa ha hfb hb c1 c3 c4)
  · by_cases c2 : 1000 < (M.stk fb).length
    · exact onM_to (by rw [e, if_pos (.inl ⟨by omega, c2⟩)]) (rs_16_f1 h hB x y x0 x1 y0 y1 c d fa fb hfa ha hfb hb c1 c2)
    · by_cases c3 : fb = 0
      · exact onM_to (by rw [e, if_neg (by omega)]) (rs_16_s1 h hB x y x0 x1 y0 y1 c d fa fb hfa ha hfb hb c1 c2 c3)
      · by_cases c4 : 1000 < (M.stk fa).length
        · exact onM_to (by rw [e, if_pos (.inr ⟨by omega, c4⟩)]) (rs_16_f2 h hB x y x0 x1 y0 y1 c d fa fb hfa ha hfb hb c1 c2 c3 c4)
        · exact onM_to (by rw [e, if_neg (by omega)]) (rs_16_s2 h hB x y x0 x1 y0 y1 c d fa fb hfa ha hfb hb c1 c2 c3 c4)
theorem rs_mem (h : MOn w P M vm vs vc vi vo sv) (hB : MBd M) (x : Nat) (hx : x < 16) (i c d : Int) (i0 : 0 ≤ i) (i1 : i ≤ 16384) :
    SC w P (10) ((x : Nat)) (i) (c) (d) (exchange M x (M.fp + i)) := by
  unfold SC
  by_cases hat : (M.m.length : Int) ≤ M.fp + i
  · exact onM_to (by unfold exchange; rw [if_pos (.inr hat)]) (rs_10a h x hx i c d i0 i1 hB.f0 hB.f1 hat)
  · obtain ⟨k, hk⟩ := nat_of (show 0 ≤ M.fp + i by have := hB.f0; omega)
    refine onM_to ?_ (rs_10b h x hx i c d i0 i1 hB.f0 hB.f1 k (by omega) hk)
    unfold exchange; rw [if_neg (by have := hB.f0; omega), hk]; rfl
theorem rs_idx (h : MOn w P M vm vs vc vi vo sv) (hB : MBd M) (x y : Nat) (hx : x < 16) (hy : y < 16) (c d : Int) (c0 : 0 ≤ c) (c1 : c ≤ 16384) (d1 : d ≤ 16384) :
    SC w P (11) ((x : Nat)) ((y : Nat)) (c) (d) (if M.reg y < 0 ∨ d ≤ M.reg y then (12, M) else exchange M x (M.fp + c + M.reg y)) := by
  unfold SC
  by_cases h0 : M.reg y < 0
  · rw [if_pos (.inl h0)]; exact rs_11a h x y hx hy c d h0
  by_cases h1 : d ≤ M.reg y
  · rw [if_pos (.inr h1)]; exact rs_11b h x y hx hy c d (by omega) h1
  rw [if_neg (by omega)]
  by_cases hat : (M.m.length : Int) ≤ M.fp + c + M.reg y
  · exact onM_to (by unfold exchange; rw [if_pos (.inr hat)]) (rs_11c h x y hx hy c d c0 c1 d1 hB.f0 hB.f1 (by omega) (by omega) hat)
  · obtain ⟨k, hk⟩ := nat_of (show 0 ≤ M.fp + c + M.reg y by have := hB.f0; omega)
    refine onM_to ?_ (rs_11d h x y hx hy c d c0 c1 d1 hB.f0 hB.f1 (by omega) (by omega) k (by omega) hk)
    unfold exchange; rw [if_neg (by have := hB.f0; omega), hk]; rfl
theorem rs_frame (h : MOn w P M vm vs vc vi vo sv) (hB : MBd M) (x y c d : Int) (x0 : 0 ≤ x) (x1 : x ≤ 16384) (y0 : 0 ≤ y) (y1 : y ≤ 16384) :
    SC w P (28) (x) (y) (c) (d) (shift M x y) := by
  unfold SC
  have f0 := hB.f0; have s0 := hB.s0
  by_cases h2 : (M.m.length : Int) < M.fp + x
  · exact onM_to (by unfold shift; rw [if_pos (by omega)]) (rs_28b h hB x y x0 x1 y0 y1 c d (by omega) h2)
  by_cases h4 : (M.s.length : Int) < M.sb + y
  · exact onM_to (by unfold shift; rw [if_pos (by omega)]) (rs_28d h hB x y x0 x1 y0 y1 c d (by omega) h2 (by omega) h4)
  · exact onM_to (by unfold shift; rw [if_neg (by omega)]) (rs_28e h hB x y x0 x1 y0 y1 c d (by omega) h2 (by omega) h4)
theorem rs_unframe (h : MOn w P M vm vs vc vi vo sv) (hB : MBd M) (x y c d : Int) (x0 : 0 ≤ x) (x1 : x ≤ 16384) (y0 : 0 ≤ y) (y1 : y ≤ 16384) :
    SC w P (29) (x) (y) (c) (d) (shift M (-x) (-y)) := by
  unfold SC
  have f0 := hB.f0; have s0 := hB.s0
  by_cases h1 : M.fp - x < 0
  · exact onM_to (by unfold shift; rw [if_pos (by omega)]) (rs_29a h hB x y x0 x1 y0 y1 c d h1)
  by_cases h2 : (M.m.length : Int) < M.fp - x
  · exact onM_to (by unfold shift; rw [if_pos (by omega)]) (rs_29b h hB x y x0 x1 y0 y1 c d h1 h2)
  by_cases h3 : M.sb - y < 0
  · exact onM_to (by unfold shift; rw [if_pos (by omega)]) (rs_29c h hB x y x0 x1 y0 y1 c d h1 h2 h3)
  by_cases h4 : (M.s.length : Int) < M.sb - y
  · exact onM_to (by unfold shift; rw [if_pos (by omega)]) (rs_29d h hB x y x0 x1 y0 y1 c d h1 h2 h3 h4)
  · refine onM_to ?_ (rs_29e h hB x y x0 x1 y0 y1 c d h1 h2 h3 h4)
    unfold shift; rw [if_neg (by omega), ← Int.sub_eq_add_neg, ← Int.sub_eq_add_neg]
theorem c_straight (h : MOn w P M vm vs vc vi vo sv) (hB : MBd M) (hs1 : 1 ≤ M.s.length) (i : Ins) (hs : straightB i.op = true) (hv : i.valid = true) :
    SC w P (i.op) (i.a) (i.b) (i.c) (i.d) (exec M i) := by
  unfold SC
  obtain ⟨op, a, b, c, d⟩ := i
  have hs' : 0 ≤ op ∧ op ≤ 21 ∨ op = 28 ∨ op = 29 := of_decide_eq_true hs
  simp only [Ins.valid, validB, Bool.and_eq_true] at hv
  obtain ⟨⟨_, _⟩, hsh⟩ := hv
  have e : op = 0 ∨ op = 1 ∨ op = 2 ∨ op = 3 ∨ op = 4 ∨ op = 5 ∨ op = 6 ∨ op = 7 ∨ op = 8 ∨ op = 9 ∨ op = 10 ∨ op = 11 ∨ op = 12 ∨ op = 13 ∨ op = 14 ∨ op = 15 ∨ op = 16 ∨ op = 17 ∨ op = 18 ∨ op = 19 ∨ op = 20 ∨ op = 21 ∨ op = 28 ∨ op = 29 := by omega
  clear hs hs'
  rcases e with rfl | rfl | rfl | rfl | rfl | rfl | rfl | rfl | rfl | rfl | rfl | rfl | rfl | rfl | rfl | rfl | rfl | rfl | rfl | rfl | rfl | rfl | rfl | rfl
  · rw [exec_0]; exact rs_0 h a b c d
  · rw [exec_1]; simp [shapeB, regB] at hsh
    obtain ⟨x, rfl⟩ := nat_of hsh.1.1.1; obtain ⟨y, rfl⟩ := nat_of hsh.1.2.1
    exact rs_1 h x y (by omega) (by omega) c d
  · rw [exec_2]; simp [shapeB, regB] at hsh
    obtain ⟨x, rfl⟩ := nat_of hsh.1.1.1; obtain ⟨y, rfl⟩ := nat_of hsh.1.2.1
    exact rs_2 h x y (by omega) (by omega) c d
  · rw [exec_3]; simp [shapeB, regB] at hsh
    obtain ⟨x, rfl⟩ := nat_of hsh.1.1.1; obtain ⟨y, rfl⟩ := nat_of hsh.1.2.1
    exact rs_3 h x y (by omega) (by omega) c d
  · rw [exec_4]; simp [shapeB, regB] at hsh
    obtain ⟨x, rfl⟩ := nat_of hsh.1
    exact rs_4 h x (by omega) b c d
  · rw [exec_5]; simp [shapeB, regB] at hsh
    obtain ⟨x, rfl⟩ := nat_of hsh.1
    exact rs_5 h x (by omega) b c d
  · rw [exec_6]; simp [shapeB, regB] at hsh
    obtain ⟨x, rfl⟩ := nat_of hsh.1
    exact rs_6 h x (by omega) b c d
  · rw [exec_7]; simp [shapeB, regB] at hsh
    obtain ⟨x, rfl⟩ := nat_of hsh.1.1; obtain ⟨y, rfl⟩ := nat_of hsh.2.1
    exact rs_7 h x y (by omega) (by omega) c d
  · rw [exec_8]; simp [shapeB, regB] at hsh
    obtain ⟨x, rfl⟩ := nat_of hsh.1
    exact rs_8 h x (by omega) b c d
  · rw [exec_9]; simp [shapeB, regB, operB] at hsh
    obtain ⟨x, rfl⟩ := nat_of (show 0 ≤ a by omega); obtain ⟨y, rfl⟩ := nat_of (show 0 ≤ b by omega); obtain ⟨z, rfl⟩ := nat_of (show 0 ≤ c by omega)
    by_cases hr : (apply d (M.reg y) (M.reg z)).2 = 0
    · rw [if_neg (fun g => g hr)]
      exact rs_9b h x y z (by omega) (by omega) (by omega) d (by omega) (by omega) _ (Prod.ext rfl hr)
    · rw [if_pos hr]
      exact rs_9a h x y z (by omega) (by omega) (by omega) d (by omega) (by omega) _ _ rfl hr
  · rw [exec_10]; simp [shapeB, regB, numB] at hsh
    obtain ⟨x, rfl⟩ := nat_of hsh.1.1
    exact rs_mem h hB x (by omega) b c d (by omega) (by omega)
  · rw [exec_11]; simp [shapeB, regB, numB] at hsh
    obtain ⟨x, rfl⟩ := nat_of (show 0 ≤ a by omega); obtain ⟨y, rfl⟩ := nat_of (show 0 ≤ b by omega)
    exact rs_idx h hB x y (by omega) (by omega) c d (by omega) (by omega) (by omega)
  · rw [exec_12]; simp [shapeB, regB, numB] at hsh
    obtain ⟨x, rfl⟩ := nat_of hsh.1.1
    exact rs_stack h hB hs1 12 (by omega) x (by omega) b c d (by omega) (by omega)
  · rw [exec_13]; simp [shapeB, regB, numB] at hsh
    obtain ⟨x, rfl⟩ := nat_of hsh.1.1
    exact rs_stack h hB hs1 13 (by omega) x (by omega) b c d (by omega) (by omega)
  · rw [exec_14]; simp [shapeB, regB, numB] at hsh
    obtain ⟨x, rfl⟩ := nat_of hsh.1.1
    exact rs_stack h hB hs1 14 (by omega) x (by omega) b c d (by omega) (by omega)
  · rw [exec_15]; simp [shapeB, regB, numB] at hsh
    obtain ⟨x, rfl⟩ := nat_of hsh.1.1
    exact rs_stack h hB hs1 15 (by omega) x (by omega) b c d (by omega) (by omega)
  · rw [exec_16]; simp [shapeB, numB] at hsh
    exact rs_swap h hB hs1 a b (by omega) (by omega) (by omega) (by omega) c d
  · rw [exec_17]; simp [shapeB, regB] at hsh
    obtain ⟨x, rfl⟩ := nat_of hsh.1
    exact rs_transfer h hB 17 (by omega) x (by omega) b c d
  · rw [exec_18]; simp [shapeB, regB] at hsh
    obtain ⟨x, rfl⟩ := nat_of hsh.1
    exact rs_transfer h hB 18 (by omega) x (by omega) b c d
  · rw [exec_19]; simp [shapeB, regB] at hsh
    obtain ⟨x, rfl⟩ := nat_of hsh.1
    exact rs_transfer h hB 19 (by omega) x (by omega) b c d
  · rw [exec_20]; simp [shapeB, regB] at hsh
    obtain ⟨x, rfl⟩ := nat_of hsh.1
    exact rs_transfer h hB 20 (by omega) x (by omega) b c d
  · rw [exec_21]; simp [shapeB, regB] at hsh
    obtain ⟨x, rfl⟩ := nat_of hsh.1.1
    by_cases hr : M.reg x = 0
    · rw [if_neg (fun g => g hr)]; exact rs_21b h x (by omega) b c d hr
    · rw [if_pos hr]; exact rs_21a h x (by omega) b c d hr
  · rw [exec_28]; simp [shapeB, numB] at hsh
    exact rs_frame h hB a b c d (by omega) (by omega) (by omega) (by omega)
  · rw [exec_29]; simp [shapeB, numB] at hsh
    exact rs_unframe h hB a b c d (by omega) (by omega) (by omega) (by omega)
end Go.Proofs.YteocbllbljeajaaDoor

/- The reference of layer 24: leave. -/
set_option maxRecDepth 100000
set_option maxHeartbeats 8000000
set_option maxRecDepth 100000
set_option linter.unusedVariables false
set_option linter.unusedSimpArgs false
namespace Go.Proofs.YteocbllbljeajaaDoor
open Go.RowKit Bk
variable {w : World} {D : Nat → Prop} {P : Pl} {M : Mach} {vm vs vc vi vo : Value} {sv : List Value}
theorem below_set {w w1 : World} (hb : Below w.heap.size w w1) {b o : Nat} {u : Value} (hp : b < w.heap.size) : Below (w.setCell ⟨b, o, none⟩ u).heap.size (w.setCell ⟨b, o, none⟩ u) (w1.setCell ⟨b, o, none⟩ u) := by
  have e : ∀ v : World, (v.setCell ⟨b, o, none⟩ u).heap.size = v.heap.size := fun v => by simp [World.setCell]
  refine ⟨hb.os, hb.tape, hb.output, by rw [e, e]; exact hb.size, fun k hk => ?_⟩
  rw [e] at hk
  have h := hb.block k hk
  by_cases hkb : k = b
  · subst hkb
    simp only [World.setCell, Array.getElem?_modify, if_true] at h ⊢
    rw [h]
  · rw [Below.heap_setCell w1 ⟨b, o, none⟩ u k hkb, Below.heap_setCell w ⟨b, o, none⟩ u k hkb]; exact h
theorem set_size (w : World) (p : Addr) (u : Value) : (w.setCell p u).heap.size = w.heap.size := by simp [World.setCell]
theorem rl_fin (h : MOn w P M vm vs vc vi vo sv) {wf : World} (u : Value) (l : List (Int × Bool)) (hu : Sl w (P.D w) 2 u l.length (actCells l)) (hb : Below (w.setCell ⟨P.b, P.off + 20, none⟩ u).heap.size (w.setCell ⟨P.b, P.off + 20, none⟩ u) wf) : MAt wf P { M with calls := l } ∧ Fr P.O w wf :=
  ⟨((h.setCalls u l hu).next hb).mat, ((Fr.refl _ _).set (.inl rfl) _).next hb⟩
theorem rl_none (h : MOn w P M vm vs vc vi vo sv) (A : Option Addr) (n cap : Nat) (mem st s : Int) (h0 : M.calls.length = 0) :
    Calls Tryd.prog 33 #[.agg #[.slice A n cap, .int .i64 mem, .int .i64 st], .pointer (some ⟨P.b, P.off, none⟩), .int .i64 s] w fun e w' => e = .returned (.tuple #[.agg #[.int .i64 0, .bool false], .int .i64 23]) ∧ MAt w' P M ∧ Fr P.O w w' := by
  have HM := Lib.hid h
  have e20 := h.c20
  have hblt := h.lt
  obtain ⟨Ac, cc, rfl, _⟩ := h.l.2.1
  rw [h0] at e20
  have hne0 : P.b ≠ w.heap.size := by omega
  have hne1 : P.b ≠ w.heap.size + 1 := by omega
  obtain ⟨b, tt, pre, post, off, gm, gs, fx⟩ := P
  dsimp only at *
  clear h h0
  go_enter Tryd.func33, Tryd.ntmps33
  go_wp2_with fail
  (try simp only [Exit.inBlock, Exit.then])
  refine bodyPost_ret_by (v := .tuple #[.agg #[.int .i64 0, .bool false], .int .i64 23]) (by simp [results, Tryd.results33, go_sem, *]) rfl ?_
  exact ⟨rfl, (HM.out.next (by go_grown)).matE rfl, by repeat' (first | with_reducible (first | assumption | apply Fr.refl | apply Fr.drew | apply Fr.drewN | apply Fr.alloc | apply Fr.set) | exact .inl rfl | exact .inr (.inl rfl) | exact .inr (.inr rfl) | (apply Fr.of; assumption))⟩
theorem rl_sitea (h : MOn w P M vm vs vc vi vo sv) {A : Option Addr} {n : Nat} (cap : Nat) {code : Prg} (hE : Env w P A n code) (mem st s : Int) (hcl : M.calls.length ≤ 100) (h0 : M.calls.length ≠ 0) (q : Nat) (hq : q < code.length) (hlc : M.calls.getLastD (0, false) = ((q : Int), false)) (ha : (code.getD q default).a ≠ s) :
    Calls Tryd.prog 33 #[.agg #[.slice A n cap, .int .i64 mem, .int .i64 st], .pointer (some ⟨P.b, P.off, none⟩), .int .i64 s] w fun e w' => e = .returned (.tuple #[.agg #[.int .i64 0, .bool false], .int .i64 23]) ∧ MAt w' P M ∧ Fr P.O w w' := by
  obtain ⟨bc, oc, rfl⟩ := hE.form hq
  have HM := Lib.hid h; have HE := Lib.hid hE
  obtain ⟨m, hm⟩ : ∃ m, M.calls.length = m + 1 := ⟨M.calls.length - 1, by omega⟩
  have HM1 := Lib.hid hm
  have hn6 : n ≤ 65536 := by rw [hE.hn]; exact hE.hl
  have e20 := h.c20; have z20 := h.frozen (P.off + 20); have hblt := h.lt
  obtain ⟨Ac, cc, rfl, hcc, hAc, hRc⟩ := h.l.2.1
  rw [hm] at e20 hRc hcc hcl
  obtain ⟨bs, os, rfl, hds, hcell⟩ := hRc.2 (by omega)
  have hbs : bs < w.heap.size := hds.1
  have hcg := actCells_get M.calls m (by omega)
  have hlast : M.calls.getD m (0, false) = ((q : Int), false) := by rw [List.getLastD_eq_getLast?, List.getLast?_eq_getElem?, hm, Nat.add_sub_cancel, ← List.getD_eq_getElem?_getD] at hlc; exact hlc
  rw [hlast] at hcg
  have el0 := hcell (m * 2) _ hcg.1; have el1 := hcell (m * 2 + 1) _ hcg.2
  rw [← Nat.add_assoc] at el1
  have j1 : (0 : Int) ≤ (m : Int) := by omega
  have j2 : (m : Int) < (m : Int) + 1 := by omega
  have j3 : (m : Int) ≤ 100 := by omega
  have j4 : ((m : Int) + 1 == 0) = false := by rw [beq_eq_false_iff_ne]; omega
  have hcs' : m ≤ cc := by omega
  have HRc := Lib.hid hRc; have HAc := Lib.hid hAc; have HCc := Lib.hid hcc
  have hqn : q < n := by rw [hE.hn]; exact hq
  have q1 : (0 : Int) ≤ (q : Int) := by omega
  have q2 : (q : Int) < (n : Int) := by omega
  obtain ⟨y, hy⟩ : ∃ y, code.getD q default = y := ⟨_, rfl⟩
  have HY := Lib.hid hy
  rw [hy] at ha
  obtain ⟨y0, y1, y2, y3, y4⟩ := hE.at_ hq hy
  have hbc : bc < w.heap.size := (hE.hC.blk (by omega)).1
  have HQ := Lib.hid hq
  have hne0 : P.b ≠ w.heap.size := by omega
  have hne1 : P.b ≠ w.heap.size + 1 := by omega
  have hne2 : P.b ≠ w.heap.size + 1 + 1 := by omega
  have hne3 : P.b ≠ w.heap.size + 1 + 1 + 1 := by omega
  have hnc0 : bc ≠ w.heap.size := by omega
  have hnc1 : bc ≠ w.heap.size + 1 := by omega
  have hnc2 : bc ≠ w.heap.size + 1 + 1 := by omega
  have hnc3 : bc ≠ w.heap.size + 1 + 1 + 1 := by omega
  obtain ⟨b, tt, pre, post, off, gm, gs, fx⟩ := P
  dsimp only at *
  clear h hE hm hcell hcg hlast hlc hRc hAc hcc hy hds h0 hq
  go_enter Tryd.func33, Tryd.ntmps33
  go_upto_region 5 with fail
  refine wp_nameY ?_
  intro w4 hw4
  have hB4 : Below w.heap.size w w4 := by rw [hw4]; exact (by go_grown)
  have KI : Blk w4 w.heap.size 24 #[.slice (some ⟨bc, oc, none⟩) n cap, .int .i64 mem, .int .i64 st] := by rw [hw4]; exact (by repeat' (first | assumption | exact Blk.new' (by simp) _ _ | apply Blk.alloc | apply Blk.drew))
  have K6 : Blk w4 (w.heap.size + 1) 49 #[.int .i64 0, .bool false] := by rw [hw4]; exact (by repeat' (first | assumption | exact Blk.new' (by simp) _ _ | apply Blk.alloc | apply Blk.drew))
  have K9 : Blk w4 (w.heap.size + 1 + 1) 49 #[.int .i64 (q : Int), .bool false] := by rw [hw4]; exact (by repeat' (first | assumption | exact Blk.new' (by simp) _ _ | apply Blk.alloc | apply Blk.drew))
  have z4 : w.heap.size + 1 + 1 < w4.heap.size := K9.lt
  have HM4 := Lib.hid (HM.out.next hB4)
  have HE4 := Lib.hid (HE.out.next hB4)
  clear hw4 y0 y1 y2 y3 y4 e20 z20 el0 el1
  obtain ⟨y0, y1, y2, y3, y4⟩ := HE4.out.at_ HQ.out HY.out
  have ha' : (y.a != s) = true := by simpa using ha
  clear ha
  have e20 := HM4.out.c20; have z20 := HM4.out.frozen (off + 20)
  dsimp only at e20 z20
  rw [HM1.out] at e20
  have hblt0 : b < w.heap.size := hblt
  have hbc4 : bc < w4.heap.size := by omega
  have hb4 : b < w4.heap.size := by omega
  have hw40 : w.heap.size < w4.heap.size := by omega
  have hw41 : w.heap.size + 1 < w4.heap.size := by omega
  obtain ⟨zI, TI, FI⟩ := KI.open_
  obtain ⟨zA, TA, FA⟩ := K6.open_
  obtain ⟨zC, TC, FC⟩ := K9.open_
  clear KI K6 K9
  go_wp2_with fail
  (try simp only [Exit.inBlock, Exit.then])
  refine bodyPost_ret_by (v := .tuple #[.agg #[.int .i64 0, .bool false], .int .i64 23]) (by simp [results, Tryd.results33, go_sem, *]) rfl ?_
  exact ⟨rfl, (HM.out.next (by go_grown)).matE rfl, Fr.of (by go_grown)⟩
theorem rl_opa (h : MOn w P M vm vs vc vi vo sv) {A : Option Addr} {n : Nat} (cap : Nat) {code : Prg} (hE : Env w P A n code) (mem st s : Int) (hcl : M.calls.length ≤ 100) (h0 : M.calls.length ≠ 0) (q : Nat) (hq : q < code.length) (hlc : M.calls.getLastD (0, false) = ((q : Int), false)) (ha : (code.getD q default).a = s) (ho : (code.getD q default).op ≠ 30) :
    Calls Tryd.prog 33 #[.agg #[.slice A n cap, .int .i64 mem, .int .i64 st], .pointer (some ⟨P.b, P.off, none⟩), .int .i64 s] w fun e w' => e = .returned (.tuple #[.agg #[.int .i64 0, .bool false], .int .i64 23]) ∧ MAt w' P M ∧ Fr P.O w w' := by
  obtain ⟨bc, oc, rfl⟩ := hE.form hq
  have HM := Lib.hid h; have HE := Lib.hid hE
  obtain ⟨m, hm⟩ : ∃ m, M.calls.length = m + 1 := ⟨M.calls.length - 1, by omega⟩
  have HM1 := Lib.hid hm
  have hn6 : n ≤ 65536 := by rw [hE.hn]; exact hE.hl
  have e20 := h.c20; have z20 := h.frozen (P.off + 20); have hblt := h.lt
  obtain ⟨Ac, cc, rfl, hcc, hAc, hRc⟩ := h.l.2.1
  rw [hm] at e20 hRc hcc hcl
  obtain ⟨bs, os, rfl, hds, hcell⟩ := hRc.2 (by omega)
  have hbs : bs < w.heap.size := hds.1
  have hcg := actCells_get M.calls m (by omega)
  have hlast : M.calls.getD m (0, false) = ((q : Int), false) := by rw [List.getLastD_eq_getLast?, List.getLast?_eq_getElem?, hm, Nat.add_sub_cancel, ← List.getD_eq_getElem?_getD] at hlc; exact hlc
  rw [hlast] at hcg
  have el0 := hcell (m * 2) _ hcg.1; have el1 := hcell (m * 2 + 1) _ hcg.2
  rw [← Nat.add_assoc] at el1
  have j1 : (0 : Int) ≤ (m : Int) := by omega
  have j2 : (m : Int) < (m : Int) + 1 := by omega
  have j3 : (m : Int) ≤ 100 := by omega
  have j4 : ((m : Int) + 1 == 0) = false := by rw [beq_eq_false_iff_ne]; omega
  have hcs' : m ≤ cc := by omega
  have HRc := Lib.hid hRc; have HAc := Lib.hid hAc; have HCc := Lib.hid hcc
  have hqn : q < n := by rw [hE.hn]; exact hq
  have q1 : (0 : Int) ≤ (q : Int) := by omega
  have q2 : (q : Int) < (n : Int) := by omega
  obtain ⟨y, hy⟩ : ∃ y, code.getD q default = y := ⟨_, rfl⟩
  have HY := Lib.hid hy
  rw [hy] at ha ho
  obtain ⟨y0, y1, y2, y3, y4⟩ := hE.at_ hq hy
  have hbc : bc < w.heap.size := (hE.hC.blk (by omega)).1
  have HQ := Lib.hid hq
  have hne0 : P.b ≠ w.heap.size := by omega
  have hne1 : P.b ≠ w.heap.size + 1 := by omega
  have hne2 : P.b ≠ w.heap.size + 1 + 1 := by omega
  have hne3 : P.b ≠ w.heap.size + 1 + 1 + 1 := by omega
  have hnc0 : bc ≠ w.heap.size := by omega
  have hnc1 : bc ≠ w.heap.size + 1 := by omega
  have hnc2 : bc ≠ w.heap.size + 1 + 1 := by omega
  have hnc3 : bc ≠ w.heap.size + 1 + 1 + 1 := by omega
  obtain ⟨b, tt, pre, post, off, gm, gs, fx⟩ := P
  dsimp only at *
  clear h hE hm hcell hcg hlast hlc hRc hAc hcc hy hds h0 hq
  go_enter Tryd.func33, Tryd.ntmps33
  go_upto_region 5 with fail
  refine wp_nameY ?_
  intro w4 hw4
  have hB4 : Below w.heap.size w w4 := by rw [hw4]; exact (by go_grown)
  have KI : Blk w4 w.heap.size 24 #[.slice (some ⟨bc, oc, none⟩) n cap, .int .i64 mem, .int .i64 st] := by rw [hw4]; exact (by repeat' (first | assumption | exact Blk.new' (by simp) _ _ | apply Blk.alloc | apply Blk.drew))
  have K6 : Blk w4 (w.heap.size + 1) 49 #[.int .i64 0, .bool false] := by rw [hw4]; exact (by repeat' (first | assumption | exact Blk.new' (by simp) _ _ | apply Blk.alloc | apply Blk.drew))
  have K9 : Blk w4 (w.heap.size + 1 + 1) 49 #[.int .i64 (q : Int), .bool false] := by rw [hw4]; exact (by repeat' (first | assumption | exact Blk.new' (by simp) _ _ | apply Blk.alloc | apply Blk.drew))
  have z4 : w.heap.size + 1 + 1 < w4.heap.size := K9.lt
  have HM4 := Lib.hid (HM.out.next hB4)
  have HE4 := Lib.hid (HE.out.next hB4)
  clear hw4 y0 y1 y2 y3 y4 e20 z20 el0 el1
  obtain ⟨y0, y1, y2, y3, y4⟩ := HE4.out.at_ HQ.out HY.out
  rw [ha] at y1
  have ho' : (y.op != 30) = true := by simpa using ho
  have ss : (s != s) = false := by simp
  clear ha ho
  have e20 := HM4.out.c20; have z20 := HM4.out.frozen (off + 20)
  dsimp only at e20 z20
  rw [HM1.out] at e20
  have hblt0 : b < w.heap.size := hblt
  have hbc4 : bc < w4.heap.size := by omega
  have hb4 : b < w4.heap.size := by omega
  have hw40 : w.heap.size < w4.heap.size := by omega
  have hw41 : w.heap.size + 1 < w4.heap.size := by omega
  obtain ⟨zI, TI, FI⟩ := KI.open_
  obtain ⟨zA, TA, FA⟩ := K6.open_
  obtain ⟨zC, TC, FC⟩ := K9.open_
  clear KI K6 K9
  go_wp2_with fail
  (try simp only [Exit.inBlock, Exit.then])
  refine bodyPost_ret_by (v := .tuple #[.agg #[.int .i64 0, .bool false], .int .i64 23]) (by simp [results, Tryd.results33, go_sem, *]) rfl ?_
  exact ⟨rfl, (HM.out.next (by go_grown)).matE rfl, Fr.of (by go_grown)⟩
theorem rl_oka (h : MOn w P M vm vs vc vi vo sv) {A : Option Addr} {n : Nat} (cap : Nat) {code : Prg} (hE : Env w P A n code) (mem st s : Int) (hcl : M.calls.length ≤ 100) (h0 : M.calls.length ≠ 0) (q : Nat) (hq : q < code.length) (hlc : M.calls.getLastD (0, false) = ((q : Int), false)) (ha : (code.getD q default).a = s) (ho : (code.getD q default).op = 30) :
    Calls Tryd.prog 33 #[.agg #[.slice A n cap, .int .i64 mem, .int .i64 st], .pointer (some ⟨P.b, P.off, none⟩), .int .i64 s] w fun e w' => e = .returned (.tuple #[.agg #[.int .i64 (q : Int), .bool false], .int .i64 0]) ∧ MAt w' P { M with calls := M.calls.dropLast } ∧ Fr P.O w w' := by
  obtain ⟨bc, oc, rfl⟩ := hE.form hq
  have HM := Lib.hid h; have HE := Lib.hid hE
  obtain ⟨m, hm⟩ : ∃ m, M.calls.length = m + 1 := ⟨M.calls.length - 1, by omega⟩
  have HM1 := Lib.hid hm
  have hn6 : n ≤ 65536 := by rw [hE.hn]; exact hE.hl
  have e20 := h.c20; have z20 := h.frozen (P.off + 20); have hblt := h.lt
  obtain ⟨Ac, cc, rfl, hcc, hAc, hRc⟩ := h.l.2.1
  rw [hm] at e20 hRc hcc hcl
  obtain ⟨bs, os, rfl, hds, hcell⟩ := hRc.2 (by omega)
  have hbs : bs < w.heap.size := hds.1
  have hcg := actCells_get M.calls m (by omega)
  have hlast : M.calls.getD m (0, false) = ((q : Int), false) := by rw [List.getLastD_eq_getLast?, List.getLast?_eq_getElem?, hm, Nat.add_sub_cancel, ← List.getD_eq_getElem?_getD] at hlc; exact hlc
  rw [hlast] at hcg
  have el0 := hcell (m * 2) _ hcg.1; have el1 := hcell (m * 2 + 1) _ hcg.2
  rw [← Nat.add_assoc] at el1
  have j1 : (0 : Int) ≤ (m : Int) := by omega
  have j2 : (m : Int) < (m : Int) + 1 := by omega
  have j3 : (m : Int) ≤ 100 := by omega
  have j4 : ((m : Int) + 1 == 0) = false := by rw [beq_eq_false_iff_ne]; omega
  have hcs' : m ≤ cc := by omega
  have HRc := Lib.hid hRc; have HAc := Lib.hid hAc; have HCc := Lib.hid hcc
  have hqn : q < n := by rw [hE.hn]; exact hq
  have q1 : (0 : Int) ≤ (q : Int) := by omega
  have q2 : (q : Int) < (n : Int) := by omega
  obtain ⟨y, hy⟩ : ∃ y, code.getD q default = y := ⟨_, rfl⟩
  have HY := Lib.hid hy
  rw [hy] at ha ho
  obtain ⟨y0, y1, y2, y3, y4⟩ := hE.at_ hq hy
  have hbc : bc < w.heap.size := (hE.hC.blk (by omega)).1
  have HQ := Lib.hid hq
  have hne0 : P.b ≠ w.heap.size := by omega
  have hne1 : P.b ≠ w.heap.size + 1 := by omega
  have hne2 : P.b ≠ w.heap.size + 1 + 1 := by omega
  have hne3 : P.b ≠ w.heap.size + 1 + 1 + 1 := by omega
  have hnc0 : bc ≠ w.heap.size := by omega
  have hnc1 : bc ≠ w.heap.size + 1 := by omega
  have hnc2 : bc ≠ w.heap.size + 1 + 1 := by omega
  have hnc3 : bc ≠ w.heap.size + 1 + 1 + 1 := by omega
  obtain ⟨b, tt, pre, post, off, gm, gs, fx⟩ := P
  dsimp only at *
  clear h hE hm hcell hcg hlast hlc hRc hAc hcc hy hds h0 hq
  go_enter Tryd.func33, Tryd.ntmps33
  go_upto_region 5 with fail
  refine wp_nameY ?_
  intro w4 hw4
  have hB4 : Below w.heap.size w w4 := by rw [hw4]; exact (by go_grown)
  have KI : Blk w4 w.heap.size 24 #[.slice (some ⟨bc, oc, none⟩) n cap, .int .i64 mem, .int .i64 st] := by rw [hw4]; exact (by repeat' (first | assumption | exact Blk.new' (by simp) _ _ | apply Blk.alloc | apply Blk.drew))
  have K6 : Blk w4 (w.heap.size + 1) 49 #[.int .i64 0, .bool false] := by rw [hw4]; exact (by repeat' (first | assumption | exact Blk.new' (by simp) _ _ | apply Blk.alloc | apply Blk.drew))
  have K9 : Blk w4 (w.heap.size + 1 + 1) 49 #[.int .i64 (q : Int), .bool false] := by rw [hw4]; exact (by repeat' (first | assumption | exact Blk.new' (by simp) _ _ | apply Blk.alloc | apply Blk.drew))
  have z4 : w.heap.size + 1 + 1 < w4.heap.size := K9.lt
  have HM4 := Lib.hid (HM.out.next hB4)
  have HE4 := Lib.hid (HE.out.next hB4)
  clear hw4 y0 y1 y2 y3 y4 e20 z20 el0 el1
  obtain ⟨y0, y1, y2, y3, y4⟩ := HE4.out.at_ HQ.out HY.out
  rw [ha] at y1
  rw [ho] at y0
  have ss : (s != s) = false := by simp
  clear ha ho
  have e20 := HM4.out.c20; have z20 := HM4.out.frozen (off + 20)
  dsimp only at e20 z20
  rw [HM1.out] at e20
  have hblt0 : b < w.heap.size := hblt
  have hbc4 : bc < w4.heap.size := by omega
  have hb4 : b < w4.heap.size := by omega
  have hw40 : w.heap.size < w4.heap.size := by omega
  have hw41 : w.heap.size + 1 < w4.heap.size := by omega
  obtain ⟨zI, TI, FI⟩ := KI.open_
  obtain ⟨zA, TA, FA⟩ := K6.open_
  obtain ⟨zC, TC, FC⟩ := K9.open_
  clear KI K6 K9
  go_wp2_with fail
  (try simp only [Exit.inBlock, Exit.then])
  refine bodyPost_ret_by (v := .tuple #[.agg #[.int .i64 (q : Int), .bool false], .int .i64 0]) (by simp [results, Tryd.results33, go_sem, *]) rfl ?_
  exact ⟨rfl, rl_fin HM.out _ M.calls.dropLast (Sl.popA HM1.out HCc.out HAc.out HRc.out) (by dsimp only; repeat' (first | with_reducible exact below_set hB4 hblt0 | with_reducible exact below_set (Below.alloc hB4 (by omega) _) hblt0 | (with_reducible refine Below.alloc ?_ ?_ _) | (with_reducible refine Below.setCell ?_ ?_ _) | (simp only [set_size, World.size_alloc]; omega) | (simp only [set_size]; simp; omega)))⟩
theorem rl_siteb (h : MOn w P M vm vs vc vi vo sv) {A : Option Addr} {n : Nat} (cap : Nat) {code : Prg} (hE : Env w P A n code) (mem st s : Int) (hcl : M.calls.length ≤ 100) (h0 : M.calls.length ≠ 0) (q : Nat) (hq : q < code.length) (hlc : M.calls.getLastD (0, false) = ((q : Int), true)) (ha : (code.getD q default).a ≠ s) :
    Calls Tryd.prog 33 #[.agg #[.slice A n cap, .int .i64 mem, .int .i64 st], .pointer (some ⟨P.b, P.off, none⟩), .int .i64 s] w fun e w' => e = .returned (.tuple #[.agg #[.int .i64 0, .bool false], .int .i64 23]) ∧ MAt w' P M ∧ Fr P.O w w' := by
  obtain ⟨bc, oc, rfl⟩ := hE.form hq
  have HM := Lib.hid h; have HE := Lib.hid hE
  obtain ⟨m, hm⟩ : ∃ m, M.calls.length = m + 1 := ⟨M.calls.length - 1, by omega⟩
  have HM1 := Lib.hid hm
  have hn6 : n ≤ 65536 := by rw [hE.hn]; exact hE.hl
  have e20 := h.c20; have z20 := h.frozen (P.off + 20); have hblt := h.lt
  obtain ⟨Ac, cc, rfl, hcc, hAc, hRc⟩ := h.l.2.1
  rw [hm] at e20 hRc hcc hcl
  obtain ⟨bs, os, rfl, hds, hcell⟩ := hRc.2 (by omega)
  have hbs : bs < w.heap.size := hds.1
  have hcg := actCells_get M.calls m (by omega)
  have hlast : M.calls.getD m (0, false) = ((q : Int), true) := by rw [List.getLastD_eq_getLast?, List.getLast?_eq_getElem?, hm, Nat.add_sub_cancel, ← List.getD_eq_getElem?_getD] at hlc; exact hlc
  rw [hlast] at hcg
  have el0 := hcell (m * 2) _ hcg.1; have el1 := hcell (m * 2 + 1) _ hcg.2
  rw [← Nat.add_assoc] at el1
  have j1 : (0 : Int) ≤ (m : Int) := by omega
  have j2 : (m : Int) < (m : Int) + 1 := by omega
  have j3 : (m : Int) ≤ 100 := by omega
  have j4 : ((m : Int) + 1 == 0) = false := by rw [beq_eq_false_iff_ne]; omega
  have hcs' : m ≤ cc := by omega
  have HRc := Lib.hid hRc; have HAc := Lib.hid hAc; have HCc := Lib.hid hcc
  have hqn : q < n := by rw [hE.hn]; exact hq
  have q1 : (0 : Int) ≤ (q : Int) := by omega
  have q2 : (q : Int) < (n : Int) := by omega
  obtain ⟨y, hy⟩ : ∃ y, code.getD q default = y := ⟨_, rfl⟩
  have HY := Lib.hid hy
  rw [hy] at ha
  obtain ⟨y0, y1, y2, y3, y4⟩ := hE.at_ hq hy
  have hbc : bc < w.heap.size := (hE.hC.blk (by omega)).1
  have HQ := Lib.hid hq
  have hne0 : P.b ≠ w.heap.size := by omega
  have hne1 : P.b ≠ w.heap.size + 1 := by omega
  have hne2 : P.b ≠ w.heap.size + 1 + 1 := by omega
  have hne3 : P.b ≠ w.heap.size + 1 + 1 + 1 := by omega
  have hnc0 : bc ≠ w.heap.size := by omega
  have hnc1 : bc ≠ w.heap.size + 1 := by omega
  have hnc2 : bc ≠ w.heap.size + 1 + 1 := by omega
  have hnc3 : bc ≠ w.heap.size + 1 + 1 + 1 := by omega
  obtain ⟨b, tt, pre, post, off, gm, gs, fx⟩ := P
  dsimp only at *
  clear h hE hm hcell hcg hlast hlc hRc hAc hcc hy hds h0 hq
  go_enter Tryd.func33, Tryd.ntmps33
  go_upto_region 5 with fail
  refine wp_nameY ?_
  intro w4 hw4
  have hB4 : Below w.heap.size w w4 := by rw [hw4]; exact (by go_grown)
  have KI : Blk w4 w.heap.size 24 #[.slice (some ⟨bc, oc, none⟩) n cap, .int .i64 mem, .int .i64 st] := by rw [hw4]; exact (by repeat' (first | assumption | exact Blk.new' (by simp) _ _ | apply Blk.alloc | apply Blk.drew))
  have K6 : Blk w4 (w.heap.size + 1) 49 #[.int .i64 0, .bool false] := by rw [hw4]; exact (by repeat' (first | assumption | exact Blk.new' (by simp) _ _ | apply Blk.alloc | apply Blk.drew))
  have K9 : Blk w4 (w.heap.size + 1 + 1) 49 #[.int .i64 (q : Int), .bool true] := by rw [hw4]; exact (by repeat' (first | assumption | exact Blk.new' (by simp) _ _ | apply Blk.alloc | apply Blk.drew))
  have z4 : w.heap.size + 1 + 1 < w4.heap.size := K9.lt
  have HM4 := Lib.hid (HM.out.next hB4)
  have HE4 := Lib.hid (HE.out.next hB4)
  clear hw4 y0 y1 y2 y3 y4 e20 z20 el0 el1
  obtain ⟨y0, y1, y2, y3, y4⟩ := HE4.out.at_ HQ.out HY.out
  have ha' : (y.a != s) = true := by simpa using ha
  clear ha
  have e20 := HM4.out.c20; have z20 := HM4.out.frozen (off + 20)
  dsimp only at e20 z20
  rw [HM1.out] at e20
  have hblt0 : b < w.heap.size := hblt
  have hbc4 : bc < w4.heap.size := by omega
  have hb4 : b < w4.heap.size := by omega
  have hw40 : w.heap.size < w4.heap.size := by omega
  have hw41 : w.heap.size + 1 < w4.heap.size := by omega
  obtain ⟨zI, TI, FI⟩ := KI.open_
  obtain ⟨zA, TA, FA⟩ := K6.open_
  obtain ⟨zC, TC, FC⟩ := K9.open_
  clear KI K6 K9
  go_wp2_with fail
  (try simp only [Exit.inBlock, Exit.then])
  refine bodyPost_ret_by (v := .tuple #[.agg #[.int .i64 0, .bool false], .int .i64 23]) (by simp [results, Tryd.results33, go_sem, *]) rfl ?_
  exact ⟨rfl, (HM.out.next (by go_grown)).matE rfl, Fr.of (by go_grown)⟩
theorem rl_opb (h : MOn w P M vm vs vc vi vo sv) {A : Option Addr} {n : Nat} (cap : Nat) {code : Prg} (hE : Env w P A n code) (mem st s : Int) (hcl : M.calls.length ≤ 100) (h0 : M.calls.length ≠ 0) (q : Nat) (hq : q < code.length) (hlc : M.calls.getLastD (0, false) = ((q : Int), true)) (ha : (code.getD q default).a = s) (ho : (code.getD q default).op ≠ 31) :
    Calls Tryd.prog 33 #[.agg #[.slice A n cap, .int .i64 mem, .int .i64 st], .pointer (some ⟨P.b, P.off, none⟩), .int .i64 s] w fun e w' => e = .returned (.tuple #[.agg #[.int .i64 0, .bool false], .int .i64 23]) ∧ MAt w' P M ∧ Fr P.O w w' := by
  obtain ⟨bc, oc, rfl⟩ := hE.form hq
  have HM := Lib.hid h; have HE := Lib.hid hE
  obtain ⟨m, hm⟩ : ∃ m, M.calls.length = m + 1 := ⟨M.calls.length - 1, by omega⟩
  have HM1 := Lib.hid hm
  have hn6 : n ≤ 65536 := by rw [hE.hn]; exact hE.hl
  have e20 := h.c20; have z20 := h.frozen (P.off + 20); have hblt := h.lt
  obtain ⟨Ac, cc, rfl, hcc, hAc, hRc⟩ := h.l.2.1
  rw [hm] at e20 hRc hcc hcl
  obtain ⟨bs, os, rfl, hds, hcell⟩ := hRc.2 (by omega)
  have hbs : bs < w.heap.size := hds.1
  have hcg := actCells_get M.calls m (by omega)
  have hlast : M.calls.getD m (0, false) = ((q : Int), true) := by rw [List.getLastD_eq_getLast?, List.getLast?_eq_getElem?, hm, Nat.add_sub_cancel, ← List.getD_eq_getElem?_getD] at hlc; exact hlc
  rw [hlast] at hcg
  have el0 := hcell (m * 2) _ hcg.1; have el1 := hcell (m * 2 + 1) _ hcg.2
  rw [← Nat.add_assoc] at el1
  have j1 : (0 : Int) ≤ (m : Int) := by omega
  have j2 : (m : Int) < (m : Int) + 1 := by omega
  have j3 : (m : Int) ≤ 100 := by omega
  have j4 : ((m : Int) + 1 == 0) = false := by rw [beq_eq_false_iff_ne]; omega
  have hcs' : m ≤ cc := by omega
  have HRc := Lib.hid hRc; have HAc := Lib.hid hAc; have HCc := Lib.hid hcc
  have hqn : q < n := by rw [hE.hn]; exact hq
  have q1 : (0 : Int) ≤ (q : Int) := by omega
  have q2 : (q : Int) < (n : Int) := by omega
  obtain ⟨y, hy⟩ : ∃ y, code.getD q default = y := ⟨_, rfl⟩
  have HY := Lib.hid hy
  rw [hy] at ha ho
  obtain ⟨y0, y1, y2, y3, y4⟩ := hE.at_ hq hy
  have hbc : bc < w.heap.size := (hE.hC.blk (by omega)).1
  have HQ := Lib.hid hq
  have hne0 : P.b ≠ w.heap.size := by omega
  have hne1 : P.b ≠ w.heap.size + 1 := by omega
  have hne2 : P.b ≠ w.heap.size + 1 + 1 := by omega
  have hne3 : P.b ≠ w.heap.size + 1 + 1 + 1 := by omega
  have hnc0 : bc ≠ w.heap.size := by omega
  have hnc1 : bc ≠ w.heap.size + 1 := by omega
  have hnc2 : bc ≠ w.heap.size + 1 + 1 := by omega
  have hnc3 : bc ≠ w.heap.size + 1 + 1 + 1 := by omega
  obtain ⟨b, tt, pre, post, off, gm, gs, fx⟩ := P
  dsimp only at *
  clear h hE hm hcell hcg hlast hlc hRc hAc hcc hy hds h0 hq
  go_enter Tryd.func33, Tryd.ntmps33
  go_upto_region 5 with fail
  refine wp_nameY ?_
  intro w4 hw4
  have hB4 : Below w.heap.size w w4 := by rw [hw4]; exact (by go_grown)
  have KI : Blk w4 w.heap.size 24 #[.slice (some ⟨bc, oc, none⟩) n cap, .int .i64 mem, .int .i64 st] := by rw [hw4]; exact (by repeat' (first | assumption | exact Blk.new' (by simp) _ _ | apply Blk.alloc | apply Blk.drew))
  have K6 : Blk w4 (w.heap.size + 1) 49 #[.int .i64 0, .bool false] := by rw [hw4]; exact (by repeat' (first | assumption | exact Blk.new' (by simp) _ _ | apply Blk.alloc | apply Blk.drew))
  have K9 : Blk w4 (w.heap.size + 1 + 1) 49 #[.int .i64 (q : Int), .bool true] := by rw [hw4]; exact (by repeat' (first | assumption | exact Blk.new' (by simp) _ _ | apply Blk.alloc | apply Blk.drew))
  have z4 : w.heap.size + 1 + 1 < w4.heap.size := K9.lt
  have HM4 := Lib.hid (HM.out.next hB4)
  have HE4 := Lib.hid (HE.out.next hB4)
  clear hw4 y0 y1 y2 y3 y4 e20 z20 el0 el1
  obtain ⟨y0, y1, y2, y3, y4⟩ := HE4.out.at_ HQ.out HY.out
  rw [ha] at y1
  have ho' : (y.op != 31) = true := by simpa using ho
  have ss : (s != s) = false := by simp
  clear ha ho
  have e20 := HM4.out.c20; have z20 := HM4.out.frozen (off + 20)
  dsimp only at e20 z20
  rw [HM1.out] at e20
  have hblt0 : b < w.heap.size := hblt
  have hbc4 : bc < w4.heap.size := by omega
  have hb4 : b < w4.heap.size := by omega
  have hw40 : w.heap.size < w4.heap.size := by omega
  have hw41 : w.heap.size + 1 < w4.heap.size := by omega
  obtain ⟨zI, TI, FI⟩ := KI.open_
  obtain ⟨zA, TA, FA⟩ := K6.open_
  obtain ⟨zC, TC, FC⟩ := K9.open_
  clear KI K6 K9
  go_wp2_with fail
  (try simp only [Exit.inBlock, Exit.then])
  refine bodyPost_ret_by (v := .tuple #[.agg #[.int .i64 0, .bool false], .int .i64 23]) (by simp [results, Tryd.results33, go_sem, *]) rfl ?_
  exact ⟨rfl, (HM.out.next (by go_grown)).matE rfl, Fr.of (by go_grown)⟩
theorem rl_okb (h : MOn w P M vm vs vc vi vo sv) {A : Option Addr} {n : Nat} (cap : Nat) {code : Prg} (hE : Env w P A n code) (mem st s : Int) (hcl : M.calls.length ≤ 100) (h0 : M.calls.length ≠ 0) (q : Nat) (hq : q < code.length) (hlc : M.calls.getLastD (0, false) = ((q : Int), true)) (ha : (code.getD q default).a = s) (ho : (code.getD q default).op = 31) :
    Calls Tryd.prog 33 #[.agg #[.slice A n cap, .int .i64 mem, .int .i64 st], .pointer (some ⟨P.b, P.off, none⟩), .int .i64 s] w fun e w' => e = .returned (.tuple #[.agg #[.int .i64 (q : Int), .bool true], .int .i64 0]) ∧ MAt w' P { M with calls := M.calls.dropLast } ∧ Fr P.O w w' := by
  obtain ⟨bc, oc, rfl⟩ := hE.form hq
  have HM := Lib.hid h; have HE := Lib.hid hE
  obtain ⟨m, hm⟩ : ∃ m, M.calls.length = m + 1 := ⟨M.calls.length - 1, by omega⟩
  have HM1 := Lib.hid hm
  have hn6 : n ≤ 65536 := by rw [hE.hn]; exact hE.hl
  have e20 := h.c20; have z20 := h.frozen (P.off + 20); have hblt := h.lt
  obtain ⟨Ac, cc, rfl, hcc, hAc, hRc⟩ := h.l.2.1
  rw [hm] at e20 hRc hcc hcl
  obtain ⟨bs, os, rfl, hds, hcell⟩ := hRc.2 (by omega)
  have hbs : bs < w.heap.size := hds.1
  have hcg := actCells_get M.calls m (by omega)
  have hlast : M.calls.getD m (0, false) = ((q : Int), true) := by rw [List.getLastD_eq_getLast?, List.getLast?_eq_getElem?, hm, Nat.add_sub_cancel, ← List.getD_eq_getElem?_getD] at hlc; exact hlc
  rw [hlast] at hcg
  have el0 := hcell (m * 2) _ hcg.1; have el1 := hcell (m * 2 + 1) _ hcg.2
  rw [← Nat.add_assoc] at el1
  have j1 : (0 : Int) ≤ (m : Int) := by omega
  have j2 : (m : Int) < (m : Int) + 1 := by omega
  have j3 : (m : Int) ≤ 100 := by omega
  have j4 : ((m : Int) + 1 == 0) = false := by rw [beq_eq_false_iff_ne]; omega
  have hcs' : m ≤ cc := by omega
  have HRc := Lib.hid hRc; have HAc := Lib.hid hAc; have HCc := Lib.hid hcc
  have hqn : q < n := by rw [hE.hn]; exact hq
  have q1 : (0 : Int) ≤ (q : Int) := by omega
  have q2 : (q : Int) < (n : Int) := by omega
  obtain ⟨y, hy⟩ : ∃ y, code.getD q default = y := ⟨_, rfl⟩
  have HY := Lib.hid hy
  rw [hy] at ha ho
  obtain ⟨y0, y1, y2, y3, y4⟩ := hE.at_ hq hy
  have hbc : bc < w.heap.size := (hE.hC.blk (by omega)).1
  have HQ := Lib.hid hq
  have hne0 : P.b ≠ w.heap.size := by omega
  have hne1 : P.b ≠ w.heap.size + 1 := by omega
  have hne2 : P.b ≠ w.heap.size + 1 + 1 := by omega
  have hne3 : P.b ≠ w.heap.size + 1 + 1 + 1 := by omega
  have hnc0 : bc ≠ w.heap.size := by omega
  have hnc1 : bc ≠ w.heap.size + 1 := by omega
  have hnc2 : bc ≠ w.heap.size + 1 + 1 := by omega
  have hnc3 : bc ≠ w.heap.size + 1 + 1 + 1 := by omega
  obtain ⟨b, tt, pre, post, off, gm, gs, fx⟩ := P
  dsimp only at *
  clear h hE hm hcell hcg hlast hlc hRc hAc hcc hy hds h0 hq
  go_enter Tryd.func33, Tryd.ntmps33
  go_upto_region 5 with fail
  refine wp_nameY ?_
  intro w4 hw4
  have hB4 : Below w.heap.size w w4 := by rw [hw4]; exact (by go_grown)
  have KI : Blk w4 w.heap.size 24 #[.slice (some ⟨bc, oc, none⟩) n cap, .int .i64 mem, .int .i64 st] := by rw [hw4]; exact (by repeat' (first | assumption | exact Blk.new' (by simp) _ _ | apply Blk.alloc | apply Blk.drew))
  have K6 : Blk w4 (w.heap.size + 1) 49 #[.int .i64 0, .bool false] := by rw [hw4]; exact (by repeat' (first | assumption | exact Blk.new' (by simp) _ _ | apply Blk.alloc | apply Blk.drew))
  have K9 : Blk w4 (w.heap.size + 1 + 1) 49 #[.int .i64 (q : Int), .bool true] := by rw [hw4]; exact (by repeat' (first | assumption | exact Blk.new' (by simp) _ _ | apply Blk.alloc | apply Blk.drew))
  have z4 : w.heap.size + 1 + 1 < w4.heap.size := K9.lt
  have HM4 := Lib.hid (HM.out.next hB4)
  have HE4 := Lib.hid (HE.out.next hB4)
  clear hw4 y0 y1 y2 y3 y4 e20 z20 el0 el1
  obtain ⟨y0, y1, y2, y3, y4⟩ := HE4.out.at_ HQ.out HY.out
  rw [ha] at y1
  rw [ho] at y0
  have ss : (s != s) = false := by simp
  clear ha ho
  have e20 := HM4.out.c20; have z20 := HM4.out.frozen (off + 20)
  dsimp only at e20 z20
  rw [HM1.out] at e20
  have hblt0 : b < w.heap.size := hblt
  have hbc4 : bc < w4.heap.size := by omega
  have hb4 : b < w4.heap.size := by omega
  have hw40 : w.heap.size < w4.heap.size := by omega
  have hw41 : w.heap.size + 1 < w4.heap.size := by omega
  obtain ⟨zI, TI, FI⟩ := KI.open_
  obtain ⟨zA, TA, FA⟩ := K6.open_
  obtain ⟨zC, TC, FC⟩ := K9.open_
  clear KI K6 K9
  go_wp2_with fail
  (try simp only [Exit.inBlock, Exit.then])
  refine bodyPost_ret_by (v := .tuple #[.agg #[.int .i64 (q : Int), .bool true], .int .i64 0]) (by simp [results, Tryd.results33, go_sem, *]) rfl ?_
  exact ⟨rfl, rl_fin HM.out _ M.calls.dropLast (Sl.popA HM1.out HCc.out HAc.out HRc.out) (by dsimp only; repeat' (first | with_reducible exact below_set hB4 hblt0 | with_reducible exact below_set (Below.alloc hB4 (by omega) _) hblt0 | (with_reducible refine Below.alloc ?_ ?_ _) | (with_reducible refine Below.setCell ?_ ?_ _) | (simp only [set_size, World.size_alloc]; omega) | (simp only [set_size]; simp; omega)))⟩
end Go.Proofs.YteocbllbljeajaaDoor

/- The reference of layer 24: what Step gives; the state of its walk. -/
set_option maxRecDepth 100000
set_option linter.unusedVariables false
set_option linter.unusedSimpArgs false
namespace Go.Proofs.YteocbllbljeajaaDoor
open Go.RowKit Bk
variable {w : World} {D : Nat → Prop} {P : Pl} {M : Mach} {vm vs vc vi vo : Value} {sv : List Value}
/-- What a step of the reference gives: a machine in new memory; its error number; where that is 0, the machine behind the step. -/
def RSt (w : World) (x : Int × Mach) (e : Ending) (w' : World) : Prop :=
  ∃ N vm vs vc vi vo sv, e = .returned (.tuple #[.agg (mcells N vm vs vc vi vo).toArray, .int .i64 x.1]) ∧ MOwn w' w.heap.size N vm vs vc vi vo sv ∧ Below w.heap.size w w' ∧ (x.1 = 0 → N = x.2)
theorem RSt.of {f : FuncId} {args : Array Value} {x y : Int × Mach} {w : World} (h : Calls Tryd.prog f args w (RSt w x)) (e : y = x) : Calls Tryd.prog f args w (RSt w y) := e ▸ h
theorem nameM {w1 w2 w3 : World} {M : Mach} {vm vs vc vi vo : Value} {sv : List Value} (hO : MOwn w2 w1.heap.size M vm vs vc vi vo sv) (hb2 : Below w1.heap.size w1 w2) (hb3 : Below w2.heap.size w2 w3) (K : Blk w3 w2.heap.size 30 (mcells M vm vs vc vi vo).toArray) :
    ∃ P : Pl, P.b = w2.heap.size ∧ P.off = 0 ∧ MOn w3 P M vm vs vc vi vo sv ∧ (∀ k, k < w1.heap.size → ¬ P.O k) ∧ (∀ (wz : World) (N : Mach) (vm vs vc vi vo : Value) (sv : List Value), MOn wz P N vm vs vc vi vo sv → MOwn wz w1.heap.size N vm vs vc vi vo sv) ∧ (∀ k, P.O k → k < w3.heap.size) := by
  obtain ⟨gm, gs, q1, q2, q3, q4, hm3⟩ := hO.on w3 hb3 K (.inr (Nat.le_refl _))
  have z1 := hb2.size; have z2 := K.lt; have z3 := hb3.size
  refine ⟨_, rfl, rfl, hm3, fun k hk ho => ?_, fun wz N vm vs vc vi vo sv h => MOn.own h q1 q2, fun k ho => ?_⟩
  · rcases ho with e | e | e <;> dsimp only at e <;> omega
  · rcases ho with e | e | e <;> dsimp only at e <;> omega
theorem mc_oneN (h : MOn w P M vm vs vc vi vo sv) : ∀ v ∈ mcells M vm vs vc vi vo, v.oneCell' = true := by
  obtain ⟨_, _, rfl, _⟩ := h.rd.m; obtain ⟨_, _, rfl, _⟩ := h.rd.s; obtain ⟨_, _, rfl, _⟩ := h.l.2.1; obtain ⟨_, _, rfl, _⟩ := h.l.2.2.1; obtain ⟨_, _, rfl, _⟩ := h.l.2.2.2
  exact mc_one rfl rfl rfl rfl rfl
/-- The state of Step's walk behind the copy: the machine N at P, the image in block bi, the instruction in block b9. -/
structure St (P : Pl) (A : Option Addr) (n cap : Nat) (mem st : Int) (code : Prg) (w3 : World) (bi b9 : Nat) (op a b c d : Int) (wx : World) (N : Mach) (vm vs vc vi vo : Value) (sv : List Value) : Prop where
  hm : MOn wx P N vm vs vc vi vo sv
  he : Env wx P A n code
  ki : Blk wx bi 24 #[.slice A n cap, .int .i64 mem, .int .i64 st]
  k9 : Blk wx b9 42 #[.int .u8 (op), .int .i64 (a), .int .i64 (b), .int .i64 (c), .int .i64 (d)]
  hf : Fr P.O w3 wx
  oi : ¬ P.O bi
  o9 : ¬ P.O b9
section
variable {P : Pl} {A : Option Addr} {n cap : Nat} {mem st : Int} {code : Prg} {w w3 wx wy : World} {bi b9 B B1 z : Nat} {op a b c d : Int} {N : Mach} {vm vs vc vi vo : Value} {sv : List Value}
theorem St.next (h : St P A n cap mem st code w3 bi b9 op a b c d wx N vm vs vc vi vo sv) (hb : Below wx.heap.size wx wy) : St P A n cap mem st code w3 bi b9 op a b c d wy N vm vs vc vi vo sv :=
  ⟨h.hm.next hb, h.he.next hb, h.ki.next hb, h.k9.next hb, h.hf.next hb, h.oi, h.o9⟩
theorem St.step (h : St P A n cap mem st code w3 bi b9 op a b c d wx N vm vs vc vi vo sv) (hf : Fr P.O wx wy) {N' : Mach} (hm : MAt wy P N') : ∃ vm vs vc vi vo sv, St P A n cap mem st code w3 bi b9 op a b c d wy N' vm vs vc vi vo sv := by
  obtain ⟨vm', vs', vc', vi', vo', sv', hm⟩ := hm
  exact ⟨vm', vs', vc', vi', vo', sv', hm, h.he.fr hf, hf.blk h.ki h.oi, hf.blk h.k9 h.o9, h.hf.trans hf, h.oi, h.o9⟩
theorem St.setPc (h : St P A n cap mem st code w3 bi b9 op a b c d wx N vm vs vc vi vo sv) (hb : P.b = B) (ho : P.off = 0) (v : Int) : St P A n cap mem st code w3 bi b9 op a b c d (wx.setCell ⟨B, 0, none⟩ (.int .i64 v)) { N with pc := v } vm vs vc vi vo sv := by
  have hm := h.hm.setPc v
  have hf : Fr P.O wx (wx.setCell ⟨B, 0, none⟩ (.int .i64 v)) := (Fr.refl _ _).set (p := ⟨B, 0, none⟩) (.inl hb.symm) _
  rw [hb, ho] at hm
  exact ⟨hm, h.he.fr hf, hf.blk h.ki h.oi, hf.blk h.k9 h.o9, h.hf.trans hf, h.oi, h.o9⟩
theorem St.setDir (h : St P A n cap mem st code w3 bi b9 op a b c d wx N vm vs vc vi vo sv) (hb : P.b = B) (ho : P.off = 0) (v : Int) : St P A n cap mem st code w3 bi b9 op a b c d (wx.setCell ⟨B, 1, none⟩ (.int .i64 v)) { N with dir := v } vm vs vc vi vo sv := by
  have hm := h.hm.setDir v
  have hf : Fr P.O wx (wx.setCell ⟨B, 1, none⟩ (.int .i64 v)) := (Fr.refl _ _).set (p := ⟨B, 1, none⟩) (.inl hb.symm) _
  rw [hb, ho] at hm
  exact ⟨hm, h.he.fr hf, hf.blk h.ki h.oi, hf.blk h.k9 h.o9, h.hf.trans hf, h.oi, h.o9⟩
theorem St.open_ (h : St P A n cap mem st code w3 bi b9 op a b c d wx N vm vs vc vi vo sv) (hb : P.b = B) (ho : P.off = 0) {pc dir : Int} (hp : N.pc = pc) (hd : N.dir = dir) :
    wx.cell? ⟨B, 0, none⟩ = some (.int .i64 pc) ∧ wx.cell? ⟨B, 1, none⟩ = some (.int .i64 dir) ∧ wx.frozen? ⟨B, 0, none⟩ = false ∧ wx.frozen? ⟨B, 1, none⟩ = false ∧ Hid (MRd wx (· < wx.heap.size) B 0 N vm vs vc vi vo sv) ∧
    (bi < wx.heap.size ∧ (∀ i, wx.cell? ⟨bi, i, none⟩ = #[Value.slice A n cap, .int .i64 mem, .int .i64 st][i]?) ∧ ∀ i, wx.frozen? ⟨bi, i, none⟩ = false) ∧ (b9 < wx.heap.size ∧ (∀ i, wx.cell? ⟨b9, i, none⟩ = #[.int .u8 (op), .int .i64 (a), .int .i64 (b), .int .i64 (c), .int .i64 (d)][i]?) ∧ ∀ i, wx.frozen? ⟨b9, i, none⟩ = false) := by
  subst hp; subst hd
  have h0 := h.hm.c0; have h1 := h.hm.c1; have h2 := h.hm.frozen 0; have h3 := h.hm.frozen 1; have h4 := h.hm.rd
  rw [hb, ho] at h0 h1 h4; rw [hb] at h2 h3
  exact ⟨h0, h1, h2, h3, Lib.hid h4, h.ki.open_, h.k9.open_⟩
theorem St.exit (h : St P A n cap mem st code w3 bi b9 op a b c d wx N vm vs vc vi vo sv) (hb : P.b = B) (ho : P.off = 0) {tz : TypeId} {cz : Array Value} (hz : Blk w3 z tz cz) (hzo : ¬ P.O z) :
    z < wx.heap.size ∧ Hid (MRd wx (· < wx.heap.size) B 0 N vm vs vc vi vo sv) ∧ Hid (Blk wx z tz cz) ∧ Hid ((mcells N vm vs vc vi vo).length = 25) ∧ Hid (∀ v ∈ mcells N vm vs vc vi vo, v.oneCell' = true) := by
  have h4 := h.hm.rd
  rw [hb, ho] at h4
  have h5 := h.hf.blk hz hzo
  exact ⟨h5.lt, Lib.hid h4, Lib.hid h5, Lib.hid (mc_len N vm vs vc vi vo h.hm.rl), Lib.hid (mc_oneN h.hm)⟩
theorem St.below (h : St P A n cap mem st code w3 bi b9 op a b c d wx N vm vs vc vi vo sv) (hB3 : Below w.heap.size w w3) (hw1 : w.heap.size ≤ B1) (hPO : ∀ k, k < B1 → ¬ P.O k) : Below w.heap.size w wx :=
  hB3.trans (h.hf.below (B := w.heap.size) hB3.size (fun k ho => by
    rcases Nat.lt_or_ge k w.heap.size with hk | hk
    · exact absurd ho (hPO k (by omega))
    · exact hk))
theorem St.fin (h : St P A n cap mem st code w3 bi b9 op a b c d wx N vm vs vc vi vo sv) (hB3 : Below w.heap.size w w3) (hw1 : w.heap.size ≤ B1) (hPO : ∀ k, k < B1 → ¬ P.O k) (hown : ∀ (wz : World) (N : Mach) (vm vs vc vi vo : Value) (sv : List Value), MOn wz P N vm vs vc vi vo sv → MOwn wz B1 N vm vs vc vi vo sv) (hz : z < B1) (hwz : w.heap.size ≤ z) {cs : Array Value} {x : Int × Mach} {e : Int} (he : e = x.1) (hx : x.1 = 0 → N = x.2) :
    RSt w x (.returned (.tuple #[.agg (mcells N vm vs vc vi vo).toArray, .int .i64 e])) (wx.setRow z cs) := by
  subst he
  have hfr : Fr (· = z) wx (wx.setRow z cs) := Fr.setRow _ _ _
  exact ⟨N, vm, vs, vc, vi, vo, sv, rfl, ((hown _ _ _ _ _ _ _ _ h.hm).fr hfr (fun k hk e => by omega)).mono hw1, ((Fr.of (h.below hB3 hw1 hPO)).trans hfr).below (Nat.le_refl _) (fun k hk => by omega), hx⟩
end
end Go.Proofs.YteocbllbljeajaaDoor

/- The reference of layer 24: Step where no instruction is reached. -/
set_option maxRecDepth 100000
set_option maxHeartbeats 8000000
set_option maxRecDepth 100000
set_option linter.unusedVariables false
set_option linter.unusedSimpArgs false
namespace Go.Proofs.YteocbllbljeajaaDoor
open Go.RowKit Bk
variable {w : World} {D : Nat → Prop} {P : Pl} {M : Mach} {vm vs vc vi vo : Value} {sv : List Value}
theorem rt_fin0 {P : Pl} {w w3 wx : World} {B1 z : Nat} {N M' : Mach} {vm vs vc vi vo : Value} {sv : List Value} (h : MOn wx P N vm vs vc vi vo sv) (hf : Fr P.O w3 wx) (hB3 : Below w.heap.size w w3) (hw1 : w.heap.size ≤ B1) (hPO : ∀ k, k < B1 → ¬ P.O k) (hown : ∀ (wz : World) (N : Mach) (vm vs vc vi vo : Value) (sv : List Value), MOn wz P N vm vs vc vi vo sv → MOwn wz B1 N vm vs vc vi vo sv) (hz : z < B1) (hwz : w.heap.size ≤ z) {cs : Array Value} :
    RSt w (4, M') (.returned (.tuple #[.agg (mcells N vm vs vc vi vo).toArray, .int .i64 4])) (wx.setRow z cs) := by
  have hfr : Fr (· = z) wx (wx.setRow z cs) := Fr.setRow _ _ _
  have hb : Below w.heap.size w wx := hB3.trans (hf.below (B := w.heap.size) hB3.size (fun k ho => by
    rcases Nat.lt_or_ge k w.heap.size with hk | hk
    · exact absurd ho (hPO k (by omega))
    · exact hk))
  exact ⟨N, vm, vs, vc, vi, vo, sv, rfl, ((hown _ _ _ _ _ _ _ _ h).fr hfr (fun k hk e => by omega)).mono hw1, ((Fr.of hb).trans hfr).below (Nat.le_refl _) (fun k hk => by omega), fun h => by cases h⟩
theorem rt_out (hL : MLs w D M vm vs vc vi vo sv) {A : Option Addr} {n : Nat} (cap : Nat) {code : Prg} (hC : Rd w (· < w.heap.size) 5 A n (codeCells code)) (hw : CodeWf code) (hT : TableAt w) (hl : code.length ≤ 65536) (mem st : Int) (hB : MBd M) (hd : (M.dir = 1 ∧ (code.length : Int) ≤ M.pc) ∨ (M.dir = -1 ∧ M.pc = 0)) (hp : 0 ≤ M.pc) (hp2 : M.pc ≤ 65536) :
    Calls Tryd.prog 10 #[.agg #[.slice A n cap, .int .i64 mem, .int .i64 st], .agg (mcells M vm vs vc vi vo).toArray] w (RSt w (4, M)) := by
  have HDD := Lib.hid hd; clear hd
  have hn : n = code.length := by have := hC.1; rw [codeCells_length] at this; omega
  have hn6 : n ≤ 65536 := by omega
  have HL := Lib.hid hL; have HC := Lib.hid hC; have HT := Lib.hid hT; have HB := Lib.hid hB; have HN := Lib.hid hn
  clear hL hC hT hB hn
  go_enter Tryd.func10, Tryd.ntmps10
  go_upto_region 1 with fail
  refine wp_nameY ?_
  intro w1 hw1
  have hB1 : Below w.heap.size w w1 := by rw [hw1]; exact (by go_grown)
  have KI : Blk w1 w.heap.size 24 #[.slice A n cap, .int .i64 mem, .int .i64 st] := by rw [hw1]; exact ((Blk.new _ _ _).alloc _).alloc _
  have KB : Blk w1 (w.heap.size + 1) 30 (mcells M vm vs vc vi vo).toArray := by rw [hw1]; exact (Blk.new' (by simp) _ _).alloc _
  have KZ : Blk w1 (w.heap.size + 2) 30 #[.int .i64 0, .int .i64 0, .int .i64 0, .int .i64 0, .int .i64 0, .int .i64 0, .int .i64 0, .int .i64 0, .int .i64 0, .int .i64 0, .int .i64 0, .int .i64 0, .int .i64 0, .int .i64 0, .int .i64 0, .int .i64 0, .int .i64 0, .int .i64 0, .slice none 0 0, .slice none 0 0, .slice none 0 0, .int .i64 0, .int .i64 0, .slice none 0 0, .slice none 0 0] := by rw [hw1]; exact Blk.new' (by simp) _ _
  have z1 : w1.heap.size = w.heap.size + 3 := by rw [hw1]; simp
  have HKI := Lib.hid KI; have HKZ := Lib.hid KZ
  have HM := Lib.hid ((HL.out.next hB1).at_ KB)
  clear hw1 KI KB KZ
  go_wp2_with (refine wpList_loadG 30 rfl rfl rfl (load_mach HM.out) ?_; simp only [Act.put, Bk.PU])
  refine (c_RCopy HM.out.mls HB.out.ln).mono ?_
  rintro e w2 ⟨vm2, vs2, vc2, vi2, vo2, sv2, rfl, hO, hb2⟩
  have hlen := mc_len M vm2 vs2 vc2 vi2 vo2 hO.1
  have hone : ∀ v ∈ mcells M vm2 vs2 vc2 vi2 vo2, v.oneCell' = true := by
    have h' := hO.mls
    obtain ⟨_, _, rfl, _⟩ := h'.m; obtain ⟨_, _, rfl, _⟩ := h'.s; obtain ⟨_, _, rfl, _⟩ := h'.l.2.1; obtain ⟨_, _, rfl, _⟩ := h'.l.2.2.1; obtain ⟨_, _, rfl, _⟩ := h'.l.2.2.2
    exact mc_one rfl rfl rfl rfl rfl
  have HLEN := Lib.hid hlen; have HONE := Lib.hid hone; have HO := Lib.hid hO; have HB2 := Lib.hid hb2
  have hB2 := hB1.next hb2
  clear hlen hone hO hb2
  go_upto_region 2 with (refine wpList_store_row rfl 30 (.tmp 6) (.tmp 19) rfl w2.heap.size (mcells M vm2 vs2 vc2 vi2 vo2).toArray rfl rfl 30 #[.int .i64 0, .int .i64 0, .int .i64 0, .int .i64 0, .int .i64 0, .int .i64 0, .int .i64 0, .int .i64 0, .int .i64 0, .int .i64 0, .int .i64 0, .int .i64 0, .int .i64 0, .int .i64 0, .int .i64 0, .int .i64 0, .int .i64 0, .int .i64 0, .slice none 0 0, .slice none 0 0, .slice none 0 0, .int .i64 0, .int .i64 0, .slice none 0 0, .slice none 0 0] (heap_alloc_new w2 _) (by rw [info_mach25]; simp [HLEN.out]) (by simp [HLEN.out]) (all_oneCell_toArray HONE.out) ?_; simp only [Act.put, Bk.PU])
  refine wp_nameY ?_
  intro w3 hw3
  rw [World.setRow_alloc_new] at hw3
  have hb3 : Below w2.heap.size w2 w3 := by rw [hw3]; exact (Below.refl _ _).alloc (Nat.le_refl _) _
  have KM : Blk w3 w2.heap.size 30 (mcells M vm2 vs2 vc2 vi2 vo2).toArray := by rw [hw3]; exact Blk.new _ _ _
  obtain ⟨P, hpb, hpo, hm3, hpO, hown, hpW⟩ := nameM HO.out HB2.out hb3 KM
  have hB3 := hB2.next hb3
  have HPO := Lib.hid hpO; have HOWN := Lib.hid hown; have HPW := Lib.hid hpW; have HM3 := Lib.hid hm3
  have hs3 := KM.lt
  have HKI3 := Lib.hid ((HKI.out.next HB2.out).next hb3); have HKZ3 := Lib.hid ((HKZ.out.next HB2.out).next hb3)
  have HE3 : Hid (Env w3 P A n code) := Lib.hid (Env.old HC.out hw HT.out hl hB3 (fun k hk => hpO k (by omega)))
  have hs12 : w1.heap.size ≤ w2.heap.size := HB2.out.size
  have e0 : w3.cell? ⟨w2.heap.size, 0, none⟩ = some (.int .i64 M.pc) := by have := hm3.c0; rw [hpb, hpo] at this; exact this
  have e1 : w3.cell? ⟨w2.heap.size, 1, none⟩ = some (.int .i64 M.dir) := by have := hm3.c1; rw [hpb, hpo] at this; exact this
  have f0 : w3.frozen? ⟨w2.heap.size, 0, none⟩ = false := by have := hm3.frozen 0; rw [hpb] at this; exact this
  have f1 : w3.frozen? ⟨w2.heap.size, 1, none⟩ = false := by have := hm3.frozen 1; rw [hpb] at this; exact this
  obtain ⟨zI, TI, FI⟩ := HKI3.out.open_
  have HZO : Hid (¬ P.O (w.heap.size + 2)) := Lib.hid (hpO _ (by omega))
  clear hw3 KM hm3 hpO hown hpW HO hb3
  rcases HDD.out with ⟨hd, hx⟩ | ⟨hd, hp⟩
  · rw [hd] at e1
    obtain ⟨pc, hpc⟩ : ∃ pc, M.pc = pc := ⟨_, rfl⟩
    rw [hpc] at e0 hp hp2 hx
    have k1 : ¬ pc < 0 := by omega
    have k2 : (n : Int) ≤ pc := by have := HN.out; omega
    clear hpc hd
    go_upto_region 7 with fail
    refine wp_nameY ?_
    intro wf hwf
    have HMf := Lib.hid (show MOn wf P M vm2 vs2 vc2 vi2 vo2 sv2 from by rw [hwf]; exact HM3.out.next (by go_grown))
    have HFf : Hid (Fr P.O w3 wf) := Lib.hid (by rw [hwf]; exact Fr.of (by go_grown))
    have HRf := Lib.hid (by have h := HMf.out.rd; rw [hpb, hpo] at h; exact h)
    have HZf := Lib.hid (HFf.out.blk HKZ3.out HZO.out)
    have HLf := Lib.hid (mc_len M vm2 vs2 vc2 vi2 vo2 HMf.out.rl)
    have HOf := Lib.hid (mc_oneN HMf.out)
    have zf : w.heap.size + 2 < wf.heap.size := HZf.out.lt
    clear hwf
    go_wp2_with (first | (refine wpList_loadG 30 rfl rfl rfl (load_mach HRf.out) ?_; simp only [Act.put, Bk.PU]) | (refine wpList_store_row rfl 30 (.tmp 4) (.tmp 39) rfl (w.heap.size + 2) (mcells M vm2 vs2 vc2 vi2 vo2).toArray rfl rfl 30 _ HZf.out (by rw [info_mach25]; simp [HLf.out]) (by simp [HLf.out]) (all_oneCell_toArray HOf.out) ?_; simp only [Act.put, Bk.PU]))
    (try simp only [Exit.inBlock, Exit.then])
    refine bodyPost_ret_by (results_cell_row2 rfl _ _ (w.heap.size + 2) _ _ _ rfl (setRow_heap _ _ _ _ _ _ HZf.out) Tryd.underlying30 rfl (by rw [info_mach25]; simp [HLf.out])) rfl ?_
    exact rt_fin0 HMf.out HFf.out hB3 (B1 := w1.heap.size) (by omega) HPO.out HOWN.out (by omega) (by omega)
  · rw [hd] at e1
    rw [hp] at e0
    clear hd
    go_upto_region 7 with fail
    refine wp_nameY ?_
    intro wf hwf
    have HMf := Lib.hid (show MOn wf P M vm2 vs2 vc2 vi2 vo2 sv2 from by rw [hwf]; exact HM3.out.next (by go_grown))
    have HFf : Hid (Fr P.O w3 wf) := Lib.hid (by rw [hwf]; exact Fr.of (by go_grown))
    have HRf := Lib.hid (by have h := HMf.out.rd; rw [hpb, hpo] at h; exact h)
    have HZf := Lib.hid (HFf.out.blk HKZ3.out HZO.out)
    have HLf := Lib.hid (mc_len M vm2 vs2 vc2 vi2 vo2 HMf.out.rl)
    have HOf := Lib.hid (mc_oneN HMf.out)
    have zf : w.heap.size + 2 < wf.heap.size := HZf.out.lt
    clear hwf
    go_wp2_with (first | (refine wpList_loadG 30 rfl rfl rfl (load_mach HRf.out) ?_; simp only [Act.put, Bk.PU]) | (refine wpList_store_row rfl 30 (.tmp 4) (.tmp 39) rfl (w.heap.size + 2) (mcells M vm2 vs2 vc2 vi2 vo2).toArray rfl rfl 30 _ HZf.out (by rw [info_mach25]; simp [HLf.out]) (by simp [HLf.out]) (all_oneCell_toArray HOf.out) ?_; simp only [Act.put, Bk.PU]))
    (try simp only [Exit.inBlock, Exit.then])
    refine bodyPost_ret_by (results_cell_row2 rfl _ _ (w.heap.size + 2) _ _ _ rfl (setRow_heap _ _ _ _ _ _ HZf.out) Tryd.underlying30 rfl (by rw [info_mach25]; simp [HLf.out])) rfl ?_
    exact rt_fin0 HMf.out HFf.out hB3 (B1 := w1.heap.size) (by omega) HPO.out HOWN.out (by omega) (by omega)
theorem c_rleave_bad (h : MOn w P M vm vs vc vi vo sv) {A : Option Addr} {n : Nat} (cap : Nat) {code : Prg} (hE : Env w P A n code) (mem st s : Int) (hcl : M.calls.length ≤ 100) (hb : M.calls.length = 0 ∨ ∃ (q : Nat) (tu : Bool), q < code.length ∧ M.calls.getLastD (0, false) = ((q : Int), tu) ∧ ((code.getD q default).a ≠ s ∨ (code.getD q default).op ≠ if tu then 31 else 30)) :
    Calls Tryd.prog 33 #[.agg #[.slice A n cap, .int .i64 mem, .int .i64 st], .pointer (some ⟨P.b, P.off, none⟩), .int .i64 s] w fun e w' => e = .returned (.tuple #[.agg #[.int .i64 0, .bool false], .int .i64 23]) ∧ MAt w' P M ∧ Fr P.O w w' := by
  by_cases h0 : M.calls.length = 0
  · exact rl_none h A n cap mem st s h0
  obtain ⟨q, tu, hq, hlc, hbad⟩ := hb.resolve_left h0
  by_cases ha : (code.getD q default).a = s
  · have ho := hbad.resolve_left (fun g => g ha)
    cases tu with
    | false => exact rl_opa h cap hE mem st s hcl h0 q hq hlc ha ho
    | true => exact rl_opb h cap hE mem st s hcl h0 q hq hlc ha ho
  · cases tu with
    | false => exact rl_sitea h cap hE mem st s hcl h0 q hq hlc ha
    | true => exact rl_siteb h cap hE mem st s hcl h0 q hq hlc ha
end Go.Proofs.YteocbllbljeajaaDoor
