/- The walks of the reference's Fits where the first test fails. -/
import Derived.Test.YteocbllbljeajaaDoorCpX
set_option linter.unusedVariables false
set_option linter.unusedSimpArgs false
set_option maxRecDepth 100000
set_option maxHeartbeats 8000000
namespace Go.Proofs.YteocbllbljeajaaDoor
open Go.RowKit Bk
variable {w : World} {D : Nat → Prop} {P : Pl} {M : Mach} {vm vs vc vi vo : Value} {sv : List Value}
theorem rfits_dir (hL : MLs w D M vm vs vc vi vo sv) (A : Option Addr) (n cap : Nat) (im : Img) (h1 : (M.dir != 1) = true) (h2 : (M.dir != -1) = true) :
    Calls Tryd.prog 29 #[.agg #[.slice A n cap, .int .i64 im.mem, .int .i64 im.stacks], .agg (mcells M vm vs vc vi vo).toArray] w fun e w' => e = .returned (.bool false) ∧ Below w.heap.size w w' := by
  obtain ⟨Am, cm, rfl, _⟩ := hL.m; obtain ⟨Av, cv, rfl, _⟩ := hL.s; obtain ⟨Ac, cc, rfl, _⟩ := hL.l.2.1; obtain ⟨Ai, ci, rfl, _⟩ := hL.l.2.2.1; obtain ⟨Ao, co, rfl, _⟩ := hL.l.2.2.2
  obtain ⟨g0, g1, gr, g18, g19, g20, g21, g22, g23, g24, glen⟩ := mc_get (M := M) (vm := .slice Am M.m.length cm) (vs := .slice Av M.s.length cv) (vc := .slice Ac M.calls.length cc) (vi := .slice Ai M.inp.length ci) (vo := .slice Ao M.out.length co) hL.rl
  clear glen gr
  clear hL
  go_enter Tryd.func29, Tryd.ntmps29
  go_upto_region 1 with fail
  go_step
  simp only [List.append_eq, List.cons_append, List.nil_append]
  go_wp2_with fail
  go_ret
  exact ⟨rfl, by go_grown⟩
theorem rfits_0 (hL : MLs w D M vm vs vc vi vo sv) (A : Option Addr) (n cap : Nat) (im : Img) (hd : M.dir = 1 ∨ M.dir = -1) (t0 : decide (M.pc < 0) = true) :
    Calls Tryd.prog 29 #[.agg #[.slice A n cap, .int .i64 im.mem, .int .i64 im.stacks], .agg (mcells M vm vs vc vi vo).toArray] w fun e w' => e = .returned (.bool false) ∧ Below w.heap.size w w' := by
  rcases hd with hd | hd
  all_goals
    obtain ⟨Am, cm, rfl, _⟩ := hL.m; obtain ⟨Av, cv, rfl, _⟩ := hL.s; obtain ⟨Ac, cc, rfl, _⟩ := hL.l.2.1; obtain ⟨Ai, ci, rfl, _⟩ := hL.l.2.2.1; obtain ⟨Ao, co, rfl, _⟩ := hL.l.2.2.2
    obtain ⟨g0, g1, gr, g18, g19, g20, g21, g22, g23, g24, glen⟩ := mc_get (M := M) (vm := .slice Am M.m.length cm) (vs := .slice Av M.s.length cv) (vc := .slice Ac M.calls.length cc) (vi := .slice Ai M.inp.length ci) (vo := .slice Ao M.out.length co) hL.rl
    clear glen gr
    clear hL
    go_enter Tryd.func29, Tryd.ntmps29
    go_upto_region 1 with fail
    go_step
    simp only [List.append_eq, List.cons_append, List.nil_append]
    go_wp2_with fail
    go_ret
    exact ⟨rfl, by go_grown⟩
theorem rfits_1 (hL : MLs w D M vm vs vc vi vo sv) (A : Option Addr) (n cap : Nat) (im : Img) (hd : M.dir = 1 ∨ M.dir = -1) (t0 : decide (M.pc < 0) = false) (t1 : decide ((n : Int) < M.pc) = true) :
    Calls Tryd.prog 29 #[.agg #[.slice A n cap, .int .i64 im.mem, .int .i64 im.stacks], .agg (mcells M vm vs vc vi vo).toArray] w fun e w' => e = .returned (.bool false) ∧ Below w.heap.size w w' := by
  rcases hd with hd | hd
  all_goals
    obtain ⟨Am, cm, rfl, _⟩ := hL.m; obtain ⟨Av, cv, rfl, _⟩ := hL.s; obtain ⟨Ac, cc, rfl, _⟩ := hL.l.2.1; obtain ⟨Ai, ci, rfl, _⟩ := hL.l.2.2.1; obtain ⟨Ao, co, rfl, _⟩ := hL.l.2.2.2
    obtain ⟨g0, g1, gr, g18, g19, g20, g21, g22, g23, g24, glen⟩ := mc_get (M := M) (vm := .slice Am M.m.length cm) (vs := .slice Av M.s.length cv) (vc := .slice Ac M.calls.length cc) (vi := .slice Ai M.inp.length ci) (vo := .slice Ao M.out.length co) hL.rl
    clear glen gr
    clear hL
    go_enter Tryd.func29, Tryd.ntmps29
    go_upto_region 1 with fail
    go_step
    simp only [List.append_eq, List.cons_append, List.nil_append]
    go_wp2_with fail
    go_ret
    exact ⟨rfl, by go_grown⟩
theorem rfits_2 (hL : MLs w D M vm vs vc vi vo sv) (A : Option Addr) (n cap : Nat) (im : Img) (hd : M.dir = 1 ∨ M.dir = -1) (t0 : decide (M.pc < 0) = false) (t1 : decide ((n : Int) < M.pc) = false) (t2 : ((M.m.length : Int) != im.mem) = true) :
    Calls Tryd.prog 29 #[.agg #[.slice A n cap, .int .i64 im.mem, .int .i64 im.stacks], .agg (mcells M vm vs vc vi vo).toArray] w fun e w' => e = .returned (.bool false) ∧ Below w.heap.size w w' := by
  rcases hd with hd | hd
  all_goals
    obtain ⟨Am, cm, rfl, _⟩ := hL.m; obtain ⟨Av, cv, rfl, _⟩ := hL.s; obtain ⟨Ac, cc, rfl, _⟩ := hL.l.2.1; obtain ⟨Ai, ci, rfl, _⟩ := hL.l.2.2.1; obtain ⟨Ao, co, rfl, _⟩ := hL.l.2.2.2
    obtain ⟨g0, g1, gr, g18, g19, g20, g21, g22, g23, g24, glen⟩ := mc_get (M := M) (vm := .slice Am M.m.length cm) (vs := .slice Av M.s.length cv) (vc := .slice Ac M.calls.length cc) (vi := .slice Ai M.inp.length ci) (vo := .slice Ao M.out.length co) hL.rl
    clear glen gr
    clear hL
    go_enter Tryd.func29, Tryd.ntmps29
    go_upto_region 1 with fail
    go_step
    simp only [List.append_eq, List.cons_append, List.nil_append]
    go_wp2_with fail
    go_ret
    exact ⟨rfl, by go_grown⟩
theorem rfits_3 (hL : MLs w D M vm vs vc vi vo sv) (A : Option Addr) (n cap : Nat) (im : Img) (hd : M.dir = 1 ∨ M.dir = -1) (t0 : decide (M.pc < 0) = false) (t1 : decide ((n : Int) < M.pc) = false) (t2 : ((M.m.length : Int) != im.mem) = false) (t3 : ((M.s.length : Int) != im.stacks) = true) :
    Calls Tryd.prog 29 #[.agg #[.slice A n cap, .int .i64 im.mem, .int .i64 im.stacks], .agg (mcells M vm vs vc vi vo).toArray] w fun e w' => e = .returned (.bool false) ∧ Below w.heap.size w w' := by
  rcases hd with hd | hd
  all_goals
    obtain ⟨Am, cm, rfl, _⟩ := hL.m; obtain ⟨Av, cv, rfl, _⟩ := hL.s; obtain ⟨Ac, cc, rfl, _⟩ := hL.l.2.1; obtain ⟨Ai, ci, rfl, _⟩ := hL.l.2.2.1; obtain ⟨Ao, co, rfl, _⟩ := hL.l.2.2.2
    obtain ⟨g0, g1, gr, g18, g19, g20, g21, g22, g23, g24, glen⟩ := mc_get (M := M) (vm := .slice Am M.m.length cm) (vs := .slice Av M.s.length cv) (vc := .slice Ac M.calls.length cc) (vi := .slice Ai M.inp.length ci) (vo := .slice Ao M.out.length co) hL.rl
    clear glen gr
    clear hL
    go_enter Tryd.func29, Tryd.ntmps29
    go_upto_region 1 with fail
    go_step
    simp only [List.append_eq, List.cons_append, List.nil_append]
    go_wp2_with fail
    go_ret
    exact ⟨rfl, by go_grown⟩
theorem rfits_4 (hL : MLs w D M vm vs vc vi vo sv) (A : Option Addr) (n cap : Nat) (im : Img) (hd : M.dir = 1 ∨ M.dir = -1) (t0 : decide (M.pc < 0) = false) (t1 : decide ((n : Int) < M.pc) = false) (t2 : ((M.m.length : Int) != im.mem) = false) (t3 : ((M.s.length : Int) != im.stacks) = false) (t4 : decide (im.stacks < 1) = true) :
    Calls Tryd.prog 29 #[.agg #[.slice A n cap, .int .i64 im.mem, .int .i64 im.stacks], .agg (mcells M vm vs vc vi vo).toArray] w fun e w' => e = .returned (.bool false) ∧ Below w.heap.size w w' := by
  rcases hd with hd | hd
  all_goals
    obtain ⟨Am, cm, rfl, _⟩ := hL.m; obtain ⟨Av, cv, rfl, _⟩ := hL.s; obtain ⟨Ac, cc, rfl, _⟩ := hL.l.2.1; obtain ⟨Ai, ci, rfl, _⟩ := hL.l.2.2.1; obtain ⟨Ao, co, rfl, _⟩ := hL.l.2.2.2
    obtain ⟨g0, g1, gr, g18, g19, g20, g21, g22, g23, g24, glen⟩ := mc_get (M := M) (vm := .slice Am M.m.length cm) (vs := .slice Av M.s.length cv) (vc := .slice Ac M.calls.length cc) (vi := .slice Ai M.inp.length ci) (vo := .slice Ao M.out.length co) hL.rl
    clear glen gr
    clear hL
    go_enter Tryd.func29, Tryd.ntmps29
    go_upto_region 1 with fail
    go_step
    simp only [List.append_eq, List.cons_append, List.nil_append]
    go_wp2_with fail
    go_ret
    exact ⟨rfl, by go_grown⟩
theorem rfits_5 (hL : MLs w D M vm vs vc vi vo sv) (A : Option Addr) (n cap : Nat) (im : Img) (hd : M.dir = 1 ∨ M.dir = -1) (t0 : decide (M.pc < 0) = false) (t1 : decide ((n : Int) < M.pc) = false) (t2 : ((M.m.length : Int) != im.mem) = false) (t3 : ((M.s.length : Int) != im.stacks) = false) (t4 : decide (im.stacks < 1) = false) (t5 : decide (100 < (M.calls.length : Int)) = true) :
    Calls Tryd.prog 29 #[.agg #[.slice A n cap, .int .i64 im.mem, .int .i64 im.stacks], .agg (mcells M vm vs vc vi vo).toArray] w fun e w' => e = .returned (.bool false) ∧ Below w.heap.size w w' := by
  rcases hd with hd | hd
  all_goals
    obtain ⟨Am, cm, rfl, _⟩ := hL.m; obtain ⟨Av, cv, rfl, _⟩ := hL.s; obtain ⟨Ac, cc, rfl, _⟩ := hL.l.2.1; obtain ⟨Ai, ci, rfl, _⟩ := hL.l.2.2.1; obtain ⟨Ao, co, rfl, _⟩ := hL.l.2.2.2
    obtain ⟨g0, g1, gr, g18, g19, g20, g21, g22, g23, g24, glen⟩ := mc_get (M := M) (vm := .slice Am M.m.length cm) (vs := .slice Av M.s.length cv) (vc := .slice Ac M.calls.length cc) (vi := .slice Ai M.inp.length ci) (vo := .slice Ao M.out.length co) hL.rl
    clear glen gr
    clear hL
    go_enter Tryd.func29, Tryd.ntmps29
    go_upto_region 1 with fail
    go_step
    simp only [List.append_eq, List.cons_append, List.nil_append]
    go_wp2_with fail
    go_ret
    exact ⟨rfl, by go_grown⟩
theorem rfits_6 (hL : MLs w D M vm vs vc vi vo sv) (A : Option Addr) (n cap : Nat) (im : Img) (hd : M.dir = 1 ∨ M.dir = -1) (t0 : decide (M.pc < 0) = false) (t1 : decide ((n : Int) < M.pc) = false) (t2 : ((M.m.length : Int) != im.mem) = false) (t3 : ((M.s.length : Int) != im.stacks) = false) (t4 : decide (im.stacks < 1) = false) (t5 : decide (100 < (M.calls.length : Int)) = false) (t6 : decide (4096 < (M.inp.length : Int)) = true) :
    Calls Tryd.prog 29 #[.agg #[.slice A n cap, .int .i64 im.mem, .int .i64 im.stacks], .agg (mcells M vm vs vc vi vo).toArray] w fun e w' => e = .returned (.bool false) ∧ Below w.heap.size w w' := by
  rcases hd with hd | hd
  all_goals
    obtain ⟨Am, cm, rfl, _⟩ := hL.m; obtain ⟨Av, cv, rfl, _⟩ := hL.s; obtain ⟨Ac, cc, rfl, _⟩ := hL.l.2.1; obtain ⟨Ai, ci, rfl, _⟩ := hL.l.2.2.1; obtain ⟨Ao, co, rfl, _⟩ := hL.l.2.2.2
    obtain ⟨g0, g1, gr, g18, g19, g20, g21, g22, g23, g24, glen⟩ := mc_get (M := M) (vm := .slice Am M.m.length cm) (vs := .slice Av M.s.length cv) (vc := .slice Ac M.calls.length cc) (vi := .slice Ai M.inp.length ci) (vo := .slice Ao M.out.length co) hL.rl
    clear glen gr
    clear hL
    go_enter Tryd.func29, Tryd.ntmps29
    go_upto_region 1 with fail
    go_step
    simp only [List.append_eq, List.cons_append, List.nil_append]
    go_wp2_with fail
    go_ret
    exact ⟨rfl, by go_grown⟩
theorem rfits_7 (hL : MLs w D M vm vs vc vi vo sv) (A : Option Addr) (n cap : Nat) (im : Img) (hd : M.dir = 1 ∨ M.dir = -1) (t0 : decide (M.pc < 0) = false) (t1 : decide ((n : Int) < M.pc) = false) (t2 : ((M.m.length : Int) != im.mem) = false) (t3 : ((M.s.length : Int) != im.stacks) = false) (t4 : decide (im.stacks < 1) = false) (t5 : decide (100 < (M.calls.length : Int)) = false) (t6 : decide (4096 < (M.inp.length : Int)) = false) (t7 : decide (4096 < (M.out.length : Int)) = true) :
    Calls Tryd.prog 29 #[.agg #[.slice A n cap, .int .i64 im.mem, .int .i64 im.stacks], .agg (mcells M vm vs vc vi vo).toArray] w fun e w' => e = .returned (.bool false) ∧ Below w.heap.size w w' := by
  rcases hd with hd | hd
  all_goals
    obtain ⟨Am, cm, rfl, _⟩ := hL.m; obtain ⟨Av, cv, rfl, _⟩ := hL.s; obtain ⟨Ac, cc, rfl, _⟩ := hL.l.2.1; obtain ⟨Ai, ci, rfl, _⟩ := hL.l.2.2.1; obtain ⟨Ao, co, rfl, _⟩ := hL.l.2.2.2
    obtain ⟨g0, g1, gr, g18, g19, g20, g21, g22, g23, g24, glen⟩ := mc_get (M := M) (vm := .slice Am M.m.length cm) (vs := .slice Av M.s.length cv) (vc := .slice Ac M.calls.length cc) (vi := .slice Ai M.inp.length ci) (vo := .slice Ao M.out.length co) hL.rl
    clear glen gr
    clear hL
    go_enter Tryd.func29, Tryd.ntmps29
    go_upto_region 1 with fail
    go_step
    simp only [List.append_eq, List.cons_append, List.nil_append]
    go_wp2_with fail
    go_ret
    exact ⟨rfl, by go_grown⟩
theorem rfits_8 (hL : MLs w D M vm vs vc vi vo sv) (A : Option Addr) (n cap : Nat) (im : Img) (hd : M.dir = 1 ∨ M.dir = -1) (t0 : decide (M.pc < 0) = false) (t1 : decide ((n : Int) < M.pc) = false) (t2 : ((M.m.length : Int) != im.mem) = false) (t3 : ((M.s.length : Int) != im.stacks) = false) (t4 : decide (im.stacks < 1) = false) (t5 : decide (100 < (M.calls.length : Int)) = false) (t6 : decide (4096 < (M.inp.length : Int)) = false) (t7 : decide (4096 < (M.out.length : Int)) = false) (t8 : decide (M.fp < 0) = true) :
    Calls Tryd.prog 29 #[.agg #[.slice A n cap, .int .i64 im.mem, .int .i64 im.stacks], .agg (mcells M vm vs vc vi vo).toArray] w fun e w' => e = .returned (.bool false) ∧ Below w.heap.size w w' := by
  rcases hd with hd | hd
  all_goals
    obtain ⟨Am, cm, rfl, _⟩ := hL.m; obtain ⟨Av, cv, rfl, _⟩ := hL.s; obtain ⟨Ac, cc, rfl, _⟩ := hL.l.2.1; obtain ⟨Ai, ci, rfl, _⟩ := hL.l.2.2.1; obtain ⟨Ao, co, rfl, _⟩ := hL.l.2.2.2
    obtain ⟨g0, g1, gr, g18, g19, g20, g21, g22, g23, g24, glen⟩ := mc_get (M := M) (vm := .slice Am M.m.length cm) (vs := .slice Av M.s.length cv) (vc := .slice Ac M.calls.length cc) (vi := .slice Ai M.inp.length ci) (vo := .slice Ao M.out.length co) hL.rl
    clear glen gr
    clear hL
    go_enter Tryd.func29, Tryd.ntmps29
    go_upto_region 1 with fail
    go_step
    simp only [List.append_eq, List.cons_append, List.nil_append]
    go_wp2_with fail
    go_ret
    exact ⟨rfl, by go_grown⟩
theorem rfits_9 (hL : MLs w D M vm vs vc vi vo sv) (A : Option Addr) (n cap : Nat) (im : Img) (hd : M.dir = 1 ∨ M.dir = -1) (t0 : decide (M.pc < 0) = false) (t1 : decide ((n : Int) < M.pc) = false) (t2 : ((M.m.length : Int) != im.mem) = false) (t3 : ((M.s.length : Int) != im.stacks) = false) (t4 : decide (im.stacks < 1) = false) (t5 : decide (100 < (M.calls.length : Int)) = false) (t6 : decide (4096 < (M.inp.length : Int)) = false) (t7 : decide (4096 < (M.out.length : Int)) = false) (t8 : decide (M.fp < 0) = false) (t9 : decide (im.mem < M.fp) = true) :
    Calls Tryd.prog 29 #[.agg #[.slice A n cap, .int .i64 im.mem, .int .i64 im.stacks], .agg (mcells M vm vs vc vi vo).toArray] w fun e w' => e = .returned (.bool false) ∧ Below w.heap.size w w' := by
  rcases hd with hd | hd
  all_goals
    obtain ⟨Am, cm, rfl, _⟩ := hL.m; obtain ⟨Av, cv, rfl, _⟩ := hL.s; obtain ⟨Ac, cc, rfl, _⟩ := hL.l.2.1; obtain ⟨Ai, ci, rfl, _⟩ := hL.l.2.2.1; obtain ⟨Ao, co, rfl, _⟩ := hL.l.2.2.2
    obtain ⟨g0, g1, gr, g18, g19, g20, g21, g22, g23, g24, glen⟩ := mc_get (M := M) (vm := .slice Am M.m.length cm) (vs := .slice Av M.s.length cv) (vc := .slice Ac M.calls.length cc) (vi := .slice Ai M.inp.length ci) (vo := .slice Ao M.out.length co) hL.rl
    clear glen gr
    clear hL
    go_enter Tryd.func29, Tryd.ntmps29
    go_upto_region 1 with fail
    go_step
    simp only [List.append_eq, List.cons_append, List.nil_append]
    go_wp2_with fail
    go_ret
    exact ⟨rfl, by go_grown⟩
theorem rfits_10 (hL : MLs w D M vm vs vc vi vo sv) (A : Option Addr) (n cap : Nat) (im : Img) (hd : M.dir = 1 ∨ M.dir = -1) (t0 : decide (M.pc < 0) = false) (t1 : decide ((n : Int) < M.pc) = false) (t2 : ((M.m.length : Int) != im.mem) = false) (t3 : ((M.s.length : Int) != im.stacks) = false) (t4 : decide (im.stacks < 1) = false) (t5 : decide (100 < (M.calls.length : Int)) = false) (t6 : decide (4096 < (M.inp.length : Int)) = false) (t7 : decide (4096 < (M.out.length : Int)) = false) (t8 : decide (M.fp < 0) = false) (t9 : decide (im.mem < M.fp) = false) (t10 : decide (M.sb < 0) = true) :
    Calls Tryd.prog 29 #[.agg #[.slice A n cap, .int .i64 im.mem, .int .i64 im.stacks], .agg (mcells M vm vs vc vi vo).toArray] w fun e w' => e = .returned (.bool false) ∧ Below w.heap.size w w' := by
  rcases hd with hd | hd
  all_goals
    obtain ⟨Am, cm, rfl, _⟩ := hL.m; obtain ⟨Av, cv, rfl, _⟩ := hL.s; obtain ⟨Ac, cc, rfl, _⟩ := hL.l.2.1; obtain ⟨Ai, ci, rfl, _⟩ := hL.l.2.2.1; obtain ⟨Ao, co, rfl, _⟩ := hL.l.2.2.2
    obtain ⟨g0, g1, gr, g18, g19, g20, g21, g22, g23, g24, glen⟩ := mc_get (M := M) (vm := .slice Am M.m.length cm) (vs := .slice Av M.s.length cv) (vc := .slice Ac M.calls.length cc) (vi := .slice Ai M.inp.length ci) (vo := .slice Ao M.out.length co) hL.rl
    clear glen gr
    clear hL
    go_enter Tryd.func29, Tryd.ntmps29
    go_upto_region 1 with fail
    go_step
    simp only [List.append_eq, List.cons_append, List.nil_append]
    go_wp2_with fail
    go_ret
    exact ⟨rfl, by go_grown⟩
theorem rfits_11 (hL : MLs w D M vm vs vc vi vo sv) (A : Option Addr) (n cap : Nat) (im : Img) (hd : M.dir = 1 ∨ M.dir = -1) (t0 : decide (M.pc < 0) = false) (t1 : decide ((n : Int) < M.pc) = false) (t2 : ((M.m.length : Int) != im.mem) = false) (t3 : ((M.s.length : Int) != im.stacks) = false) (t4 : decide (im.stacks < 1) = false) (t5 : decide (100 < (M.calls.length : Int)) = false) (t6 : decide (4096 < (M.inp.length : Int)) = false) (t7 : decide (4096 < (M.out.length : Int)) = false) (t8 : decide (M.fp < 0) = false) (t9 : decide (im.mem < M.fp) = false) (t10 : decide (M.sb < 0) = false) (t11 : decide (im.stacks < M.sb) = true) :
    Calls Tryd.prog 29 #[.agg #[.slice A n cap, .int .i64 im.mem, .int .i64 im.stacks], .agg (mcells M vm vs vc vi vo).toArray] w fun e w' => e = .returned (.bool false) ∧ Below w.heap.size w w' := by
  rcases hd with hd | hd
  all_goals
    obtain ⟨Am, cm, rfl, _⟩ := hL.m; obtain ⟨Av, cv, rfl, _⟩ := hL.s; obtain ⟨Ac, cc, rfl, _⟩ := hL.l.2.1; obtain ⟨Ai, ci, rfl, _⟩ := hL.l.2.2.1; obtain ⟨Ao, co, rfl, _⟩ := hL.l.2.2.2
    obtain ⟨g0, g1, gr, g18, g19, g20, g21, g22, g23, g24, glen⟩ := mc_get (M := M) (vm := .slice Am M.m.length cm) (vs := .slice Av M.s.length cv) (vc := .slice Ac M.calls.length cc) (vi := .slice Ai M.inp.length ci) (vo := .slice Ao M.out.length co) hL.rl
    clear glen gr
    clear hL
    go_enter Tryd.func29, Tryd.ntmps29
    go_upto_region 1 with fail
    go_step
    simp only [List.append_eq, List.cons_append, List.nil_append]
    go_wp2_with fail
    go_ret
    exact ⟨rfl, by go_grown⟩
/-- The first test, as a whole. -/
def rtestB (n : Nat) (im : Img) (M : Mach) : Bool := decide (M.dir = 1 ∨ M.dir = -1) && decide (0 ≤ M.pc ∧ M.pc ≤ n ∧ (M.m.length : Int) = im.mem ∧ (M.s.length : Int) = im.stacks ∧ 1 ≤ im.stacks ∧ M.calls.length ≤ 100 ∧ M.inp.length ≤ 4096 ∧ M.out.length ≤ 4096 ∧ 0 ≤ M.fp ∧ M.fp ≤ im.mem ∧ 0 ≤ M.sb ∧ M.sb ≤ im.stacks)
theorem c_rfits_bad (hL : MLs w D M vm vs vc vi vo sv) (A : Option Addr) (n cap : Nat) (im : Img) (h : rtestB n im M = false) :
    Calls Tryd.prog 29 #[.agg #[.slice A n cap, .int .i64 im.mem, .int .i64 im.stacks], .agg (mcells M vm vs vc vi vo).toArray] w fun e w' => e = .returned (.bool false) ∧ Below w.heap.size w w' := by
  unfold rtestB at h
  cases t0 : decide (M.pc < 0)
  case true =>
    by_cases d1 : M.dir = 1
    · exact rfits_0 hL A n cap im (.inl d1) t0
    by_cases d2 : M.dir = -1
    · exact rfits_0 hL A n cap im (.inr d2) t0
    · exact rfits_dir hL A n cap im (by simpa using d1) (by simpa using d2)
  case false =>
  cases t1 : decide ((n : Int) < M.pc)
  case true =>
    by_cases d1 : M.dir = 1
    · exact rfits_1 hL A n cap im (.inl d1) t0 t1
    by_cases d2 : M.dir = -1
    · exact rfits_1 hL A n cap im (.inr d2) t0 t1
    · exact rfits_dir hL A n cap im (by simpa using d1) (by simpa using d2)
  case false =>
  cases t2 : ((M.m.length : Int) != im.mem)
  case true =>
    by_cases d1 : M.dir = 1
    · exact rfits_2 hL A n cap im (.inl d1) t0 t1 t2
    by_cases d2 : M.dir = -1
    · exact rfits_2 hL A n cap im (.inr d2) t0 t1 t2
    · exact rfits_dir hL A n cap im (by simpa using d1) (by simpa using d2)
  case false =>
  cases t3 : ((M.s.length : Int) != im.stacks)
  case true =>
    by_cases d1 : M.dir = 1
    · exact rfits_3 hL A n cap im (.inl d1) t0 t1 t2 t3
    by_cases d2 : M.dir = -1
    · exact rfits_3 hL A n cap im (.inr d2) t0 t1 t2 t3
    · exact rfits_dir hL A n cap im (by simpa using d1) (by simpa using d2)
  case false =>
  cases t4 : decide (im.stacks < 1)
  case true =>
    by_cases d1 : M.dir = 1
    · exact rfits_4 hL A n cap im (.inl d1) t0 t1 t2 t3 t4
    by_cases d2 : M.dir = -1
    · exact rfits_4 hL A n cap im (.inr d2) t0 t1 t2 t3 t4
    · exact rfits_dir hL A n cap im (by simpa using d1) (by simpa using d2)
  case false =>
  cases t5 : decide (100 < (M.calls.length : Int))
  case true =>
    by_cases d1 : M.dir = 1
    · exact rfits_5 hL A n cap im (.inl d1) t0 t1 t2 t3 t4 t5
    by_cases d2 : M.dir = -1
    · exact rfits_5 hL A n cap im (.inr d2) t0 t1 t2 t3 t4 t5
    · exact rfits_dir hL A n cap im (by simpa using d1) (by simpa using d2)
  case false =>
  cases t6 : decide (4096 < (M.inp.length : Int))
  case true =>
    by_cases d1 : M.dir = 1
    · exact rfits_6 hL A n cap im (.inl d1) t0 t1 t2 t3 t4 t5 t6
    by_cases d2 : M.dir = -1
    · exact rfits_6 hL A n cap im (.inr d2) t0 t1 t2 t3 t4 t5 t6
    · exact rfits_dir hL A n cap im (by simpa using d1) (by simpa using d2)
  case false =>
  cases t7 : decide (4096 < (M.out.length : Int))
  case true =>
    by_cases d1 : M.dir = 1
    · exact rfits_7 hL A n cap im (.inl d1) t0 t1 t2 t3 t4 t5 t6 t7
    by_cases d2 : M.dir = -1
    · exact rfits_7 hL A n cap im (.inr d2) t0 t1 t2 t3 t4 t5 t6 t7
    · exact rfits_dir hL A n cap im (by simpa using d1) (by simpa using d2)
  case false =>
  cases t8 : decide (M.fp < 0)
  case true =>
    by_cases d1 : M.dir = 1
    · exact rfits_8 hL A n cap im (.inl d1) t0 t1 t2 t3 t4 t5 t6 t7 t8
    by_cases d2 : M.dir = -1
    · exact rfits_8 hL A n cap im (.inr d2) t0 t1 t2 t3 t4 t5 t6 t7 t8
    · exact rfits_dir hL A n cap im (by simpa using d1) (by simpa using d2)
  case false =>
  cases t9 : decide (im.mem < M.fp)
  case true =>
    by_cases d1 : M.dir = 1
    · exact rfits_9 hL A n cap im (.inl d1) t0 t1 t2 t3 t4 t5 t6 t7 t8 t9
    by_cases d2 : M.dir = -1
    · exact rfits_9 hL A n cap im (.inr d2) t0 t1 t2 t3 t4 t5 t6 t7 t8 t9
    · exact rfits_dir hL A n cap im (by simpa using d1) (by simpa using d2)
  case false =>
  cases t10 : decide (M.sb < 0)
  case true =>
    by_cases d1 : M.dir = 1
    · exact rfits_10 hL A n cap im (.inl d1) t0 t1 t2 t3 t4 t5 t6 t7 t8 t9 t10
    by_cases d2 : M.dir = -1
    · exact rfits_10 hL A n cap im (.inr d2) t0 t1 t2 t3 t4 t5 t6 t7 t8 t9 t10
    · exact rfits_dir hL A n cap im (by simpa using d1) (by simpa using d2)
  case false =>
  cases t11 : decide (im.stacks < M.sb)
  case true =>
    by_cases d1 : M.dir = 1
    · exact rfits_11 hL A n cap im (.inl d1) t0 t1 t2 t3 t4 t5 t6 t7 t8 t9 t10 t11
    by_cases d2 : M.dir = -1
    · exact rfits_11 hL A n cap im (.inr d2) t0 t1 t2 t3 t4 t5 t6 t7 t8 t9 t10 t11
    · exact rfits_dir hL A n cap im (by simpa using d1) (by simpa using d2)
  case false =>
  by_cases d1 : M.dir = 1 ∨ M.dir = -1
  · exfalso
    simp only [decide_eq_false_iff_not, bne_eq_false_iff_eq] at t0 t1 t2 t3 t4 t5 t6 t7 t8 t9 t10 t11
    rw [Bool.and_eq_false_iff, decide_eq_false_iff_not, decide_eq_false_iff_not] at h
    rcases h with h | h
    · exact h d1
    · exact h (by omega)
  · exact rfits_dir hL A n cap im (by simp; omega) (by simp; omega)
end Go.Proofs.YteocbllbljeajaaDoor
