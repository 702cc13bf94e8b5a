/- The walks of great, the reference's Fits, fits, on machines by value. -/
import Derived.Test.YteenmpjjaheggaaDoorCpX
set_option linter.unusedVariables false
set_option linter.unusedSimpArgs false
set_option maxRecDepth 100000
set_option maxHeartbeats 8000000
namespace Bk
def sumLen (s : List (List Int)) : Nat := (s.map List.length).sum
/-- What the laws of layer 24 leave out. -/
def greatB (im : Img) (M : Mach) : Bool := decide (100 < im.code.length ∨ 100 < im.mem ∨ 100 < im.stacks ∨ 100 < M.m.length ∨ 100 < M.s.length ∨ 200 < M.calls.length ∨ 5000 < M.inp.length ∨ 5000 < M.out.length ∨ 5000 < sumLen M.s)
theorem sumLen_take (s : List (List Int)) (k : Nat) (h : k < s.length) : sumLen (s.take (k + 1)) = sumLen (s.take k) + (s.getD k []).length := by
  unfold sumLen
  rw [List.take_succ_eq_append_getElem h, List.map_append, List.sum_append, List.getD_eq_getElem?_getD, List.getElem?_eq_getElem h]
  simp
end Bk
namespace Go.Proofs.YteenmpjjaheggaaDoor
open Go.RowKit Bk
variable {w : World} {D : Nat → Prop} {P : Pl} {M : Mach} {vm vs vc vi vo : Value} {sv : List Value}
theorem great_0 (hL : MLs w D M vm vs vc vi vo sv) (A : Option Addr) (n cap : Nat) (im : Img) (t0 : decide (100 < (n : Int)) = true) :
    Calls Tryd.prog 7 #[.agg #[.slice A n cap, .int .i64 im.mem, .int .i64 im.stacks], .agg (mcells M vm vs vc vi vo).toArray] w fun e w' => e = .returned (.bool true) ∧ Below w.heap.size w w' := by
  obtain ⟨Am, cm, rfl, _⟩ := hL.m; obtain ⟨Av, cv, rfl, _⟩ := hL.s; obtain ⟨Ac, cc, rfl, _⟩ := hL.l.2.1; obtain ⟨Ai, ci, rfl, _⟩ := hL.l.2.2.1; obtain ⟨Ao, co, rfl, _⟩ := hL.l.2.2.2
  obtain ⟨g0, g1, gr, g18, g19, g20, g21, g22, g23, g24, glen⟩ := mc_get (M := M) (vm := .slice Am M.m.length cm) (vs := .slice Av M.s.length cv) (vc := .slice Ac M.calls.length cc) (vi := .slice Ai M.inp.length ci) (vo := .slice Ao M.out.length co) hL.rl
  clear glen gr
  clear hL
  go_enter Tryd.func7, Tryd.ntmps7
  go_wp2_with fail
  go_ret
  exact ⟨rfl, by go_grown⟩
theorem great_1 (hL : MLs w D M vm vs vc vi vo sv) (A : Option Addr) (n cap : Nat) (im : Img) (t0 : decide (100 < (n : Int)) = false) (t1 : decide (100 < im.mem) = true) :
    Calls Tryd.prog 7 #[.agg #[.slice A n cap, .int .i64 im.mem, .int .i64 im.stacks], .agg (mcells M vm vs vc vi vo).toArray] w fun e w' => e = .returned (.bool true) ∧ Below w.heap.size w w' := by
  obtain ⟨Am, cm, rfl, _⟩ := hL.m; obtain ⟨Av, cv, rfl, _⟩ := hL.s; obtain ⟨Ac, cc, rfl, _⟩ := hL.l.2.1; obtain ⟨Ai, ci, rfl, _⟩ := hL.l.2.2.1; obtain ⟨Ao, co, rfl, _⟩ := hL.l.2.2.2
  obtain ⟨g0, g1, gr, g18, g19, g20, g21, g22, g23, g24, glen⟩ := mc_get (M := M) (vm := .slice Am M.m.length cm) (vs := .slice Av M.s.length cv) (vc := .slice Ac M.calls.length cc) (vi := .slice Ai M.inp.length ci) (vo := .slice Ao M.out.length co) hL.rl
  clear glen gr
  clear hL
  go_enter Tryd.func7, Tryd.ntmps7
  go_wp2_with fail
  go_ret
  exact ⟨rfl, by go_grown⟩
theorem great_2 (hL : MLs w D M vm vs vc vi vo sv) (A : Option Addr) (n cap : Nat) (im : Img) (t0 : decide (100 < (n : Int)) = false) (t1 : decide (100 < im.mem) = false) (t2 : decide (100 < im.stacks) = true) :
    Calls Tryd.prog 7 #[.agg #[.slice A n cap, .int .i64 im.mem, .int .i64 im.stacks], .agg (mcells M vm vs vc vi vo).toArray] w fun e w' => e = .returned (.bool true) ∧ Below w.heap.size w w' := by
  obtain ⟨Am, cm, rfl, _⟩ := hL.m; obtain ⟨Av, cv, rfl, _⟩ := hL.s; obtain ⟨Ac, cc, rfl, _⟩ := hL.l.2.1; obtain ⟨Ai, ci, rfl, _⟩ := hL.l.2.2.1; obtain ⟨Ao, co, rfl, _⟩ := hL.l.2.2.2
  obtain ⟨g0, g1, gr, g18, g19, g20, g21, g22, g23, g24, glen⟩ := mc_get (M := M) (vm := .slice Am M.m.length cm) (vs := .slice Av M.s.length cv) (vc := .slice Ac M.calls.length cc) (vi := .slice Ai M.inp.length ci) (vo := .slice Ao M.out.length co) hL.rl
  clear glen gr
  clear hL
  go_enter Tryd.func7, Tryd.ntmps7
  go_wp2_with fail
  go_ret
  exact ⟨rfl, by go_grown⟩
theorem great_3 (hL : MLs w D M vm vs vc vi vo sv) (A : Option Addr) (n cap : Nat) (im : Img) (t0 : decide (100 < (n : Int)) = false) (t1 : decide (100 < im.mem) = false) (t2 : decide (100 < im.stacks) = false) (t3 : decide (100 < (M.m.length : Int)) = true) :
    Calls Tryd.prog 7 #[.agg #[.slice A n cap, .int .i64 im.mem, .int .i64 im.stacks], .agg (mcells M vm vs vc vi vo).toArray] w fun e w' => e = .returned (.bool true) ∧ Below w.heap.size w w' := by
  obtain ⟨Am, cm, rfl, _⟩ := hL.m; obtain ⟨Av, cv, rfl, _⟩ := hL.s; obtain ⟨Ac, cc, rfl, _⟩ := hL.l.2.1; obtain ⟨Ai, ci, rfl, _⟩ := hL.l.2.2.1; obtain ⟨Ao, co, rfl, _⟩ := hL.l.2.2.2
  obtain ⟨g0, g1, gr, g18, g19, g20, g21, g22, g23, g24, glen⟩ := mc_get (M := M) (vm := .slice Am M.m.length cm) (vs := .slice Av M.s.length cv) (vc := .slice Ac M.calls.length cc) (vi := .slice Ai M.inp.length ci) (vo := .slice Ao M.out.length co) hL.rl
  clear glen gr
  clear hL
  go_enter Tryd.func7, Tryd.ntmps7
  go_wp2_with fail
  go_ret
  exact ⟨rfl, by go_grown⟩
theorem great_4 (hL : MLs w D M vm vs vc vi vo sv) (A : Option Addr) (n cap : Nat) (im : Img) (t0 : decide (100 < (n : Int)) = false) (t1 : decide (100 < im.mem) = false) (t2 : decide (100 < im.stacks) = false) (t3 : decide (100 < (M.m.length : Int)) = false) (t4 : decide (100 < (M.s.length : Int)) = true) :
    Calls Tryd.prog 7 #[.agg #[.slice A n cap, .int .i64 im.mem, .int .i64 im.stacks], .agg (mcells M vm vs vc vi vo).toArray] w fun e w' => e = .returned (.bool true) ∧ Below w.heap.size w w' := by
  obtain ⟨Am, cm, rfl, _⟩ := hL.m; obtain ⟨Av, cv, rfl, _⟩ := hL.s; obtain ⟨Ac, cc, rfl, _⟩ := hL.l.2.1; obtain ⟨Ai, ci, rfl, _⟩ := hL.l.2.2.1; obtain ⟨Ao, co, rfl, _⟩ := hL.l.2.2.2
  obtain ⟨g0, g1, gr, g18, g19, g20, g21, g22, g23, g24, glen⟩ := mc_get (M := M) (vm := .slice Am M.m.length cm) (vs := .slice Av M.s.length cv) (vc := .slice Ac M.calls.length cc) (vi := .slice Ai M.inp.length ci) (vo := .slice Ao M.out.length co) hL.rl
  clear glen gr
  clear hL
  go_enter Tryd.func7, Tryd.ntmps7
  go_wp2_with fail
  go_ret
  exact ⟨rfl, by go_grown⟩
theorem great_5 (hL : MLs w D M vm vs vc vi vo sv) (A : Option Addr) (n cap : Nat) (im : Img) (t0 : decide (100 < (n : Int)) = false) (t1 : decide (100 < im.mem) = false) (t2 : decide (100 < im.stacks) = false) (t3 : decide (100 < (M.m.length : Int)) = false) (t4 : decide (100 < (M.s.length : Int)) = false) (t5 : decide (200 < (M.calls.length : Int)) = true) :
    Calls Tryd.prog 7 #[.agg #[.slice A n cap, .int .i64 im.mem, .int .i64 im.stacks], .agg (mcells M vm vs vc vi vo).toArray] w fun e w' => e = .returned (.bool true) ∧ Below w.heap.size w w' := by
  obtain ⟨Am, cm, rfl, _⟩ := hL.m; obtain ⟨Av, cv, rfl, _⟩ := hL.s; obtain ⟨Ac, cc, rfl, _⟩ := hL.l.2.1; obtain ⟨Ai, ci, rfl, _⟩ := hL.l.2.2.1; obtain ⟨Ao, co, rfl, _⟩ := hL.l.2.2.2
  obtain ⟨g0, g1, gr, g18, g19, g20, g21, g22, g23, g24, glen⟩ := mc_get (M := M) (vm := .slice Am M.m.length cm) (vs := .slice Av M.s.length cv) (vc := .slice Ac M.calls.length cc) (vi := .slice Ai M.inp.length ci) (vo := .slice Ao M.out.length co) hL.rl
  clear glen gr
  clear hL
  go_enter Tryd.func7, Tryd.ntmps7
  go_wp2_with fail
  go_ret
  exact ⟨rfl, by go_grown⟩
theorem great_6 (hL : MLs w D M vm vs vc vi vo sv) (A : Option Addr) (n cap : Nat) (im : Img) (t0 : decide (100 < (n : Int)) = false) (t1 : decide (100 < im.mem) = false) (t2 : decide (100 < im.stacks) = false) (t3 : decide (100 < (M.m.length : Int)) = false) (t4 : decide (100 < (M.s.length : Int)) = false) (t5 : decide (200 < (M.calls.length : Int)) = false) (t6 : decide (5000 < (M.inp.length : Int)) = true) :
    Calls Tryd.prog 7 #[.agg #[.slice A n cap, .int .i64 im.mem, .int .i64 im.stacks], .agg (mcells M vm vs vc vi vo).toArray] w fun e w' => e = .returned (.bool true) ∧ Below w.heap.size w w' := by
  obtain ⟨Am, cm, rfl, _⟩ := hL.m; obtain ⟨Av, cv, rfl, _⟩ := hL.s; obtain ⟨Ac, cc, rfl, _⟩ := hL.l.2.1; obtain ⟨Ai, ci, rfl, _⟩ := hL.l.2.2.1; obtain ⟨Ao, co, rfl, _⟩ := hL.l.2.2.2
  obtain ⟨g0, g1, gr, g18, g19, g20, g21, g22, g23, g24, glen⟩ := mc_get (M := M) (vm := .slice Am M.m.length cm) (vs := .slice Av M.s.length cv) (vc := .slice Ac M.calls.length cc) (vi := .slice Ai M.inp.length ci) (vo := .slice Ao M.out.length co) hL.rl
  clear glen gr
  clear hL
  go_enter Tryd.func7, Tryd.ntmps7
  go_wp2_with fail
  go_ret
  exact ⟨rfl, by go_grown⟩
theorem great_7 (hL : MLs w D M vm vs vc vi vo sv) (A : Option Addr) (n cap : Nat) (im : Img) (t0 : decide (100 < (n : Int)) = false) (t1 : decide (100 < im.mem) = false) (t2 : decide (100 < im.stacks) = false) (t3 : decide (100 < (M.m.length : Int)) = false) (t4 : decide (100 < (M.s.length : Int)) = false) (t5 : decide (200 < (M.calls.length : Int)) = false) (t6 : decide (5000 < (M.inp.length : Int)) = false) (t7 : decide (5000 < (M.out.length : Int)) = true) :
    Calls Tryd.prog 7 #[.agg #[.slice A n cap, .int .i64 im.mem, .int .i64 im.stacks], .agg (mcells M vm vs vc vi vo).toArray] w fun e w' => e = .returned (.bool true) ∧ Below w.heap.size w w' := by
  obtain ⟨Am, cm, rfl, _⟩ := hL.m; obtain ⟨Av, cv, rfl, _⟩ := hL.s; obtain ⟨Ac, cc, rfl, _⟩ := hL.l.2.1; obtain ⟨Ai, ci, rfl, _⟩ := hL.l.2.2.1; obtain ⟨Ao, co, rfl, _⟩ := hL.l.2.2.2
  obtain ⟨g0, g1, gr, g18, g19, g20, g21, g22, g23, g24, glen⟩ := mc_get (M := M) (vm := .slice Am M.m.length cm) (vs := .slice Av M.s.length cv) (vc := .slice Ac M.calls.length cc) (vi := .slice Ai M.inp.length ci) (vo := .slice Ao M.out.length co) hL.rl
  clear glen gr
  clear hL
  go_enter Tryd.func7, Tryd.ntmps7
  go_wp2_with fail
  go_ret
  exact ⟨rfl, by go_grown⟩
theorem great_loop (hL : MLs w D M vm vs vc vi vo sv) (A : Option Addr) (n cap : Nat) (im : Img) (t0 : decide (100 < (n : Int)) = false) (t1 : decide (100 < im.mem) = false) (t2 : decide (100 < im.stacks) = false) (t3 : decide (100 < (M.m.length : Int)) = false) (t4 : decide (100 < (M.s.length : Int)) = false) (t5 : decide (200 < (M.calls.length : Int)) = false) (t6 : decide (5000 < (M.inp.length : Int)) = false) (t7 : decide (5000 < (M.out.length : Int)) = false) (hl : ∀ l ∈ M.s, l.length ≤ 17592186043904) {v : Bool} (hv : decide (5000 < sumLen M.s) = v) :
    Calls Tryd.prog 7 #[.agg #[.slice A n cap, .int .i64 im.mem, .int .i64 im.stacks], .agg (mcells M vm vs vc vi vo).toArray] w fun e w' => e = .returned (.bool v) ∧ Below w.heap.size w w' := by
  have HL := Lib.hid hL; have HLL := Lib.hid hl
  obtain ⟨Am, cm, rfl, _⟩ := hL.m; obtain ⟨Av, cv, rfl, _⟩ := hL.s; obtain ⟨Ac, cc, rfl, _⟩ := hL.l.2.1; obtain ⟨Ai, ci, rfl, _⟩ := hL.l.2.2.1; obtain ⟨Ao, co, rfl, _⟩ := hL.l.2.2.2
  obtain ⟨g0, g1, gr, g18, g19, g20, g21, g22, g23, g24, glen⟩ := mc_get (M := M) (vm := .slice Am M.m.length cm) (vs := .slice Av M.s.length cv) (vc := .slice Ac M.calls.length cc) (vi := .slice Ai M.inp.length ci) (vo := .slice Ao M.out.length co) hL.rl
  clear glen gr
  have hms : M.s.length ≤ 100 := by simp at t4; omega
  clear hL hl
  have HV := Lib.hid hv; clear hv
  go_enter Tryd.func7, Tryd.ntmps7
  go_wp2_with fail
  refine wp_nameY ?_
  intro w2 hw2
  have hB2 : Below w.heap.size w w2 := by rw [hw2]; exact (by go_grown)
  clear hw2
  have hnn : (0 : Int) = (sumLen (M.s.take 0) : Int) := by simp [sumLen]
  go_loopw [5, 55] (fun v5 v55 wr => ∃ j : Nat, j ≤ M.s.length ∧ v5 = .int .i64 (sumLen (M.s.take j)) ∧ v55 = .int .i64 j ∧ sumLen (M.s.take j) ≤ j * 17592186043904 ∧ w2 = wr) (fun _ v _ => M.s.length - (intOf v).toNat)
  case atStart => exact ⟨0, Nat.zero_le _, by rw [← hnn], rfl, by simp [sumLen], rfl⟩
  case round =>
    obtain ⟨j, hj, rfl, rfl, hsj, rfl⟩ := hrel
    by_cases hlt : j < M.s.length
    · have hL2 := HL.out.next hB2
      obtain ⟨_, _, ev, _, _, hR⟩ := hL2.s
      injection ev with ev _ _
      subst ev
      obtain ⟨bs, os, rfl, hds, hcell⟩ := hR.2 (by omega)
      obtain ⟨u, hu, A1, c1, rfl, _⟩ := hL2.l.1.2 j hlt
      have ec := hcell j _ hu
      have hle := HLL.out _ (getD_mem hlt)
      have hst := sumLen_take M.s j hlt
      generalize (M.s.getD j []).length = lj at *
      have j0 : (0 : Int) ≤ (j : Int) := by omega
      have j1 : (j : Int) < (M.s.length : Int) := by omega
      generalize sumLen (M.s.take j) = sj at *
      have s0 : (0 : Int) ≤ (sj : Int) + (lj : Int) := by omega
      have s1 : (sj : Int) + (lj : Int) ≤ 100000000000000000 := by omega
      have HST := Lib.hid hst; have HLE := Lib.hid hle
      clear hL2 hR hcell hu hle hst
      go_wp2_with fail
      exact ⟨⟨j + 1, by omega, by rw [HST.out]; go_num, by go_num, by have := HST.out; have := HLE.out; omega, trivial⟩, by simp [intOf]; omega⟩
    · obtain rfl : j = M.s.length := by omega
      rw [List.take_length]
      go_wp2_with fail
      go_ret
      exact ⟨ret_bool (by rw [← HV.out, decide_eq_decide]; omega), hB2⟩
theorem decB {p : Prop} [Decidable p] {b : Bool} (h : b = true ↔ p) : decide p = b := by cases b <;> simp_all
theorem c_great (hL : MLs w D M vm vs vc vi vo sv) (A : Option Addr) (n cap : Nat) (im : Img) (hn : n = im.code.length) (hl : ∀ l ∈ M.s, l.length ≤ 17592186043904) {v : Bool} (hv : greatB im M = v) :
    Calls Tryd.prog 7 #[.agg #[.slice A n cap, .int .i64 im.mem, .int .i64 im.stacks], .agg (mcells M vm vs vc vi vo).toArray] w fun e w' => e = .returned (.bool v) ∧ Below w.heap.size w w' := by
  subst hn
  by_cases h0 : (100 : Int) < (im.code.length : Int)
  · obtain rfl : true = v := by rw [← hv]; symm; unfold greatB; simp only [decide_eq_true_eq]; omega
    exact great_0 hL A _ cap im (by simpa using h0)
  by_cases h1 : (100 : Int) < im.mem
  · obtain rfl : true = v := by rw [← hv]; symm; unfold greatB; simp only [decide_eq_true_eq]; omega
    exact great_1 hL A _ cap im (by simpa using h0) (by simpa using h1)
  by_cases h2 : (100 : Int) < im.stacks
  · obtain rfl : true = v := by rw [← hv]; symm; unfold greatB; simp only [decide_eq_true_eq]; omega
    exact great_2 hL A _ cap im (by simpa using h0) (by simpa using h1) (by simpa using h2)
  by_cases h3 : (100 : Int) < (M.m.length : Int)
  · obtain rfl : true = v := by rw [← hv]; symm; unfold greatB; simp only [decide_eq_true_eq]; omega
    exact great_3 hL A _ cap im (by simpa using h0) (by simpa using h1) (by simpa using h2) (by simpa using h3)
  by_cases h4 : (100 : Int) < (M.s.length : Int)
  · obtain rfl : true = v := by rw [← hv]; symm; unfold greatB; simp only [decide_eq_true_eq]; omega
    exact great_4 hL A _ cap im (by simpa using h0) (by simpa using h1) (by simpa using h2) (by simpa using h3) (by simpa using h4)
  by_cases h5 : (200 : Int) < (M.calls.length : Int)
  · obtain rfl : true = v := by rw [← hv]; symm; unfold greatB; simp only [decide_eq_true_eq]; omega
    exact great_5 hL A _ cap im (by simpa using h0) (by simpa using h1) (by simpa using h2) (by simpa using h3) (by simpa using h4) (by simpa using h5)
  by_cases h6 : (5000 : Int) < (M.inp.length : Int)
  · obtain rfl : true = v := by rw [← hv]; symm; unfold greatB; simp only [decide_eq_true_eq]; omega
    exact great_6 hL A _ cap im (by simpa using h0) (by simpa using h1) (by simpa using h2) (by simpa using h3) (by simpa using h4) (by simpa using h5) (by simpa using h6)
  by_cases h7 : (5000 : Int) < (M.out.length : Int)
  · obtain rfl : true = v := by rw [← hv]; symm; unfold greatB; simp only [decide_eq_true_eq]; omega
    exact great_7 hL A _ cap im (by simpa using h0) (by simpa using h1) (by simpa using h2) (by simpa using h3) (by simpa using h4) (by simpa using h5) (by simpa using h6) (by simpa using h7)
  refine great_loop hL A _ cap im (by simpa using h0) (by simpa using h1) (by simpa using h2) (by simpa using h3) (by simpa using h4) (by simpa using h5) (by simpa using h6) (by simpa using h7) hl ?_
  rw [← hv]; unfold greatB; rw [decide_eq_decide]; omega
end Go.Proofs.YteenmpjjaheggaaDoor
