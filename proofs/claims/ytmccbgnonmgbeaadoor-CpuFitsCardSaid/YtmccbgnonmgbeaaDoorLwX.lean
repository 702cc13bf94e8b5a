/- Several texts in one: LwA LwC. -/
import Derived.Test.YtmccbgnonmgbeaaDoorCpX
set_option linter.unusedVariables false
set_option linter.unusedSimpArgs false
/- The walks of great, the reference's Fits, fits, on machines by value. -/
set_option linter.unusedVariables false
namespace Bk
def sumLen (s : List (List Int)) : Nat := (s.map List.length).sum
/-- What the laws of layer 24 leave out. -/
def greatB (im : Img) (M : Mach) : Bool := decide (100 < im.code.length ∨ 100 < im.mem ∨ 100 < im.stacks ∨ 100 < M.m.length ∨ 100 < M.s.length ∨ 200 < M.calls.length ∨ 5000 < M.inp.length ∨ 5000 < M.out.length ∨ 5000 < sumLen M.s)
theorem sumLen_take (s : List (List Int)) (k : Nat) (h : k < s.length) : sumLen (s.take (k + 1)) = sumLen (s.take k) + (s.getD k []).length := by
  unfold sumLen
  rw [List.take_succ_eq_append_getElem h, List.map_append, List.sum_append, List.getD_eq_getElem?_getD, List.getElem?_eq_getElem h]
  simp
end Bk
namespace Go.Proofs.YtmccbgnonmgbeaaDoor
open Go.RowKit Bk
set_option maxRecDepth 100000 in
theorem great_0 {w : World} {D : Nat → Prop} {M : Mach} {vm vs vc vi vo : Value} {sv : List Value} (hL : MLs w D M vm vs vc vi vo sv) (A : Option Addr) (n cap : Nat) (im : Img) (t0 : decide (100 < (n : Int)) = true) :
    Calls Tryd.prog 25 #[.agg #[.slice A n cap, .int .i64 im.mem, .int .i64 im.stacks], .agg (mcells M vm vs vc vi vo).toArray] w fun e w' => e = .returned (.bool true) ∧ Below w.heap.size w w' := by
  obtain ⟨Am, cm, rfl, _⟩ := hL.m; obtain ⟨Av, cv, rfl, _⟩ := hL.s; obtain ⟨Ac, cc, rfl, _⟩ := hL.l.2.1; obtain ⟨Ai, ci, rfl, _⟩ := hL.l.2.2.1; obtain ⟨Ao, co, rfl, _⟩ := hL.l.2.2.2
  obtain ⟨g0, g1, gr, g18, g19, g20, g21, g22, g23, g24, glen⟩ := mc_get (M := M) (vm := .slice Am M.m.length cm) (vs := .slice Av M.s.length cv) (vc := .slice Ac M.calls.length cc) (vi := .slice Ai M.inp.length ci) (vo := .slice Ao M.out.length co) hL.rl
  clear glen gr
  clear hL
  go_enter Tryd.func25, Tryd.ntmps25
  go_wp2_with fail
  go_ret
  exact ⟨rfl, by repeat' (first | (with_reducible assumption) | (with_reducible exact Below.refl _ _) | (with_reducible refine Below.alloc ?_ ?_ _) | (with_reducible refine Bk.drewN_ ?_ _) | (with_reducible refine Below.drew ?_) | (with_reducible refine Below.setCell ?_ ?_ _) | go_size)⟩
set_option maxRecDepth 100000 in
theorem great_1 {w : World} {D : Nat → Prop} {M : Mach} {vm vs vc vi vo : Value} {sv : List Value} (hL : MLs w D M vm vs vc vi vo sv) (A : Option Addr) (n cap : Nat) (im : Img) (t0 : decide (100 < (n : Int)) = false) (t1 : decide (100 < im.mem) = true) :
    Calls Tryd.prog 25 #[.agg #[.slice A n cap, .int .i64 im.mem, .int .i64 im.stacks], .agg (mcells M vm vs vc vi vo).toArray] w fun e w' => e = .returned (.bool true) ∧ Below w.heap.size w w' := by
  obtain ⟨Am, cm, rfl, _⟩ := hL.m; obtain ⟨Av, cv, rfl, _⟩ := hL.s; obtain ⟨Ac, cc, rfl, _⟩ := hL.l.2.1; obtain ⟨Ai, ci, rfl, _⟩ := hL.l.2.2.1; obtain ⟨Ao, co, rfl, _⟩ := hL.l.2.2.2
  obtain ⟨g0, g1, gr, g18, g19, g20, g21, g22, g23, g24, glen⟩ := mc_get (M := M) (vm := .slice Am M.m.length cm) (vs := .slice Av M.s.length cv) (vc := .slice Ac M.calls.length cc) (vi := .slice Ai M.inp.length ci) (vo := .slice Ao M.out.length co) hL.rl
  clear glen gr
  clear hL
  go_enter Tryd.func25, Tryd.ntmps25
  go_wp2_with fail
  go_ret
  exact ⟨rfl, by repeat' (first | (with_reducible assumption) | (with_reducible exact Below.refl _ _) | (with_reducible refine Below.alloc ?_ ?_ _) | (with_reducible refine Bk.drewN_ ?_ _) | (with_reducible refine Below.drew ?_) | (with_reducible refine Below.setCell ?_ ?_ _) | go_size)⟩
set_option maxRecDepth 100000 in
theorem great_2 {w : World} {D : Nat → Prop} {M : Mach} {vm vs vc vi vo : Value} {sv : List Value} (hL : MLs w D M vm vs vc vi vo sv) (A : Option Addr) (n cap : Nat) (im : Img) (t0 : decide (100 < (n : Int)) = false) (t1 : decide (100 < im.mem) = false) (t2 : decide (100 < im.stacks) = true) :
    Calls Tryd.prog 25 #[.agg #[.slice A n cap, .int .i64 im.mem, .int .i64 im.stacks], .agg (mcells M vm vs vc vi vo).toArray] w fun e w' => e = .returned (.bool true) ∧ Below w.heap.size w w' := by
  obtain ⟨Am, cm, rfl, _⟩ := hL.m; obtain ⟨Av, cv, rfl, _⟩ := hL.s; obtain ⟨Ac, cc, rfl, _⟩ := hL.l.2.1; obtain ⟨Ai, ci, rfl, _⟩ := hL.l.2.2.1; obtain ⟨Ao, co, rfl, _⟩ := hL.l.2.2.2
  obtain ⟨g0, g1, gr, g18, g19, g20, g21, g22, g23, g24, glen⟩ := mc_get (M := M) (vm := .slice Am M.m.length cm) (vs := .slice Av M.s.length cv) (vc := .slice Ac M.calls.length cc) (vi := .slice Ai M.inp.length ci) (vo := .slice Ao M.out.length co) hL.rl
  clear glen gr
  clear hL
  go_enter Tryd.func25, Tryd.ntmps25
  go_wp2_with fail
  go_ret
  exact ⟨rfl, by repeat' (first | (with_reducible assumption) | (with_reducible exact Below.refl _ _) | (with_reducible refine Below.alloc ?_ ?_ _) | (with_reducible refine Bk.drewN_ ?_ _) | (with_reducible refine Below.drew ?_) | (with_reducible refine Below.setCell ?_ ?_ _) | go_size)⟩
set_option maxRecDepth 100000 in
theorem great_3 {w : World} {D : Nat → Prop} {M : Mach} {vm vs vc vi vo : Value} {sv : List Value} (hL : MLs w D M vm vs vc vi vo sv) (A : Option Addr) (n cap : Nat) (im : Img) (t0 : decide (100 < (n : Int)) = false) (t1 : decide (100 < im.mem) = false) (t2 : decide (100 < im.stacks) = false) (t3 : decide (100 < (M.m.length : Int)) = true) :
    Calls Tryd.prog 25 #[.agg #[.slice A n cap, .int .i64 im.mem, .int .i64 im.stacks], .agg (mcells M vm vs vc vi vo).toArray] w fun e w' => e = .returned (.bool true) ∧ Below w.heap.size w w' := by
  obtain ⟨Am, cm, rfl, _⟩ := hL.m; obtain ⟨Av, cv, rfl, _⟩ := hL.s; obtain ⟨Ac, cc, rfl, _⟩ := hL.l.2.1; obtain ⟨Ai, ci, rfl, _⟩ := hL.l.2.2.1; obtain ⟨Ao, co, rfl, _⟩ := hL.l.2.2.2
  obtain ⟨g0, g1, gr, g18, g19, g20, g21, g22, g23, g24, glen⟩ := mc_get (M := M) (vm := .slice Am M.m.length cm) (vs := .slice Av M.s.length cv) (vc := .slice Ac M.calls.length cc) (vi := .slice Ai M.inp.length ci) (vo := .slice Ao M.out.length co) hL.rl
  clear glen gr
  clear hL
  go_enter Tryd.func25, Tryd.ntmps25
  go_wp2_with fail
  go_ret
  exact ⟨rfl, by repeat' (first | (with_reducible assumption) | (with_reducible exact Below.refl _ _) | (with_reducible refine Below.alloc ?_ ?_ _) | (with_reducible refine Bk.drewN_ ?_ _) | (with_reducible refine Below.drew ?_) | (with_reducible refine Below.setCell ?_ ?_ _) | go_size)⟩
set_option maxRecDepth 100000 in
theorem great_4 {w : World} {D : Nat → Prop} {M : Mach} {vm vs vc vi vo : Value} {sv : List Value} (hL : MLs w D M vm vs vc vi vo sv) (A : Option Addr) (n cap : Nat) (im : Img) (t0 : decide (100 < (n : Int)) = false) (t1 : decide (100 < im.mem) = false) (t2 : decide (100 < im.stacks) = false) (t3 : decide (100 < (M.m.length : Int)) = false) (t4 : decide (100 < (M.s.length : Int)) = true) :
    Calls Tryd.prog 25 #[.agg #[.slice A n cap, .int .i64 im.mem, .int .i64 im.stacks], .agg (mcells M vm vs vc vi vo).toArray] w fun e w' => e = .returned (.bool true) ∧ Below w.heap.size w w' := by
  obtain ⟨Am, cm, rfl, _⟩ := hL.m; obtain ⟨Av, cv, rfl, _⟩ := hL.s; obtain ⟨Ac, cc, rfl, _⟩ := hL.l.2.1; obtain ⟨Ai, ci, rfl, _⟩ := hL.l.2.2.1; obtain ⟨Ao, co, rfl, _⟩ := hL.l.2.2.2
  obtain ⟨g0, g1, gr, g18, g19, g20, g21, g22, g23, g24, glen⟩ := mc_get (M := M) (vm := .slice Am M.m.length cm) (vs := .slice Av M.s.length cv) (vc := .slice Ac M.calls.length cc) (vi := .slice Ai M.inp.length ci) (vo := .slice Ao M.out.length co) hL.rl
  clear glen gr
  clear hL
  go_enter Tryd.func25, Tryd.ntmps25
  go_wp2_with fail
  go_ret
  exact ⟨rfl, by repeat' (first | (with_reducible assumption) | (with_reducible exact Below.refl _ _) | (with_reducible refine Below.alloc ?_ ?_ _) | (with_reducible refine Bk.drewN_ ?_ _) | (with_reducible refine Below.drew ?_) | (with_reducible refine Below.setCell ?_ ?_ _) | go_size)⟩
set_option maxRecDepth 100000 in
theorem great_5 {w : World} {D : Nat → Prop} {M : Mach} {vm vs vc vi vo : Value} {sv : List Value} (hL : MLs w D M vm vs vc vi vo sv) (A : Option Addr) (n cap : Nat) (im : Img) (t0 : decide (100 < (n : Int)) = false) (t1 : decide (100 < im.mem) = false) (t2 : decide (100 < im.stacks) = false) (t3 : decide (100 < (M.m.length : Int)) = false) (t4 : decide (100 < (M.s.length : Int)) = false) (t5 : decide (200 < (M.calls.length : Int)) = true) :
    Calls Tryd.prog 25 #[.agg #[.slice A n cap, .int .i64 im.mem, .int .i64 im.stacks], .agg (mcells M vm vs vc vi vo).toArray] w fun e w' => e = .returned (.bool true) ∧ Below w.heap.size w w' := by
  obtain ⟨Am, cm, rfl, _⟩ := hL.m; obtain ⟨Av, cv, rfl, _⟩ := hL.s; obtain ⟨Ac, cc, rfl, _⟩ := hL.l.2.1; obtain ⟨Ai, ci, rfl, _⟩ := hL.l.2.2.1; obtain ⟨Ao, co, rfl, _⟩ := hL.l.2.2.2
  obtain ⟨g0, g1, gr, g18, g19, g20, g21, g22, g23, g24, glen⟩ := mc_get (M := M) (vm := .slice Am M.m.length cm) (vs := .slice Av M.s.length cv) (vc := .slice Ac M.calls.length cc) (vi := .slice Ai M.inp.length ci) (vo := .slice Ao M.out.length co) hL.rl
  clear glen gr
  clear hL
  go_enter Tryd.func25, Tryd.ntmps25
  go_wp2_with fail
  go_ret
  exact ⟨rfl, by repeat' (first | (with_reducible assumption) | (with_reducible exact Below.refl _ _) | (with_reducible refine Below.alloc ?_ ?_ _) | (with_reducible refine Bk.drewN_ ?_ _) | (with_reducible refine Below.drew ?_) | (with_reducible refine Below.setCell ?_ ?_ _) | go_size)⟩
set_option maxRecDepth 100000 in
theorem great_6 {w : World} {D : Nat → Prop} {M : Mach} {vm vs vc vi vo : Value} {sv : List Value} (hL : MLs w D M vm vs vc vi vo sv) (A : Option Addr) (n cap : Nat) (im : Img) (t0 : decide (100 < (n : Int)) = false) (t1 : decide (100 < im.mem) = false) (t2 : decide (100 < im.stacks) = false) (t3 : decide (100 < (M.m.length : Int)) = false) (t4 : decide (100 < (M.s.length : Int)) = false) (t5 : decide (200 < (M.calls.length : Int)) = false) (t6 : decide (5000 < (M.inp.length : Int)) = true) :
    Calls Tryd.prog 25 #[.agg #[.slice A n cap, .int .i64 im.mem, .int .i64 im.stacks], .agg (mcells M vm vs vc vi vo).toArray] w fun e w' => e = .returned (.bool true) ∧ Below w.heap.size w w' := by
  obtain ⟨Am, cm, rfl, _⟩ := hL.m; obtain ⟨Av, cv, rfl, _⟩ := hL.s; obtain ⟨Ac, cc, rfl, _⟩ := hL.l.2.1; obtain ⟨Ai, ci, rfl, _⟩ := hL.l.2.2.1; obtain ⟨Ao, co, rfl, _⟩ := hL.l.2.2.2
  obtain ⟨g0, g1, gr, g18, g19, g20, g21, g22, g23, g24, glen⟩ := mc_get (M := M) (vm := .slice Am M.m.length cm) (vs := .slice Av M.s.length cv) (vc := .slice Ac M.calls.length cc) (vi := .slice Ai M.inp.length ci) (vo := .slice Ao M.out.length co) hL.rl
  clear glen gr
  clear hL
  go_enter Tryd.func25, Tryd.ntmps25
  go_wp2_with fail
  go_ret
  exact ⟨rfl, by repeat' (first | (with_reducible assumption) | (with_reducible exact Below.refl _ _) | (with_reducible refine Below.alloc ?_ ?_ _) | (with_reducible refine Bk.drewN_ ?_ _) | (with_reducible refine Below.drew ?_) | (with_reducible refine Below.setCell ?_ ?_ _) | go_size)⟩
set_option maxRecDepth 100000 in
theorem great_7 {w : World} {D : Nat → Prop} {M : Mach} {vm vs vc vi vo : Value} {sv : List Value} (hL : MLs w D M vm vs vc vi vo sv) (A : Option Addr) (n cap : Nat) (im : Img) (t0 : decide (100 < (n : Int)) = false) (t1 : decide (100 < im.mem) = false) (t2 : decide (100 < im.stacks) = false) (t3 : decide (100 < (M.m.length : Int)) = false) (t4 : decide (100 < (M.s.length : Int)) = false) (t5 : decide (200 < (M.calls.length : Int)) = false) (t6 : decide (5000 < (M.inp.length : Int)) = false) (t7 : decide (5000 < (M.out.length : Int)) = true) :
    Calls Tryd.prog 25 #[.agg #[.slice A n cap, .int .i64 im.mem, .int .i64 im.stacks], .agg (mcells M vm vs vc vi vo).toArray] w fun e w' => e = .returned (.bool true) ∧ Below w.heap.size w w' := by
  obtain ⟨Am, cm, rfl, _⟩ := hL.m; obtain ⟨Av, cv, rfl, _⟩ := hL.s; obtain ⟨Ac, cc, rfl, _⟩ := hL.l.2.1; obtain ⟨Ai, ci, rfl, _⟩ := hL.l.2.2.1; obtain ⟨Ao, co, rfl, _⟩ := hL.l.2.2.2
  obtain ⟨g0, g1, gr, g18, g19, g20, g21, g22, g23, g24, glen⟩ := mc_get (M := M) (vm := .slice Am M.m.length cm) (vs := .slice Av M.s.length cv) (vc := .slice Ac M.calls.length cc) (vi := .slice Ai M.inp.length ci) (vo := .slice Ao M.out.length co) hL.rl
  clear glen gr
  clear hL
  go_enter Tryd.func25, Tryd.ntmps25
  go_wp2_with fail
  go_ret
  exact ⟨rfl, by repeat' (first | (with_reducible assumption) | (with_reducible exact Below.refl _ _) | (with_reducible refine Below.alloc ?_ ?_ _) | (with_reducible refine Bk.drewN_ ?_ _) | (with_reducible refine Below.drew ?_) | (with_reducible refine Below.setCell ?_ ?_ _) | go_size)⟩
set_option maxRecDepth 100000 in
set_option maxHeartbeats 4000000 in
theorem great_loop {w : World} {D : Nat → Prop} {M : Mach} {vm vs vc vi vo : Value} {sv : List Value} (hL : MLs w D M vm vs vc vi vo sv) (A : Option Addr) (n cap : Nat) (im : Img) (t0 : decide (100 < (n : Int)) = false) (t1 : decide (100 < im.mem) = false) (t2 : decide (100 < im.stacks) = false) (t3 : decide (100 < (M.m.length : Int)) = false) (t4 : decide (100 < (M.s.length : Int)) = false) (t5 : decide (200 < (M.calls.length : Int)) = false) (t6 : decide (5000 < (M.inp.length : Int)) = false) (t7 : decide (5000 < (M.out.length : Int)) = false) (hl : ∀ l ∈ M.s, l.length ≤ 281474976710656) {v : Bool} (hv : decide (5000 < sumLen M.s) = v) :
    Calls Tryd.prog 25 #[.agg #[.slice A n cap, .int .i64 im.mem, .int .i64 im.stacks], .agg (mcells M vm vs vc vi vo).toArray] w fun e w' => e = .returned (.bool v) ∧ Below w.heap.size w w' := by
  have HL := Lib.hid hL; have HLL := Lib.hid hl
  obtain ⟨Am, cm, rfl, _⟩ := hL.m; obtain ⟨Av, cv, rfl, _⟩ := hL.s; obtain ⟨Ac, cc, rfl, _⟩ := hL.l.2.1; obtain ⟨Ai, ci, rfl, _⟩ := hL.l.2.2.1; obtain ⟨Ao, co, rfl, _⟩ := hL.l.2.2.2
  obtain ⟨g0, g1, gr, g18, g19, g20, g21, g22, g23, g24, glen⟩ := mc_get (M := M) (vm := .slice Am M.m.length cm) (vs := .slice Av M.s.length cv) (vc := .slice Ac M.calls.length cc) (vi := .slice Ai M.inp.length ci) (vo := .slice Ao M.out.length co) hL.rl
  clear glen gr
  have hms : M.s.length ≤ 100 := by simp at t4; omega
  clear hL hl
  have HV := Lib.hid hv; clear hv
  go_enter Tryd.func25, Tryd.ntmps25
  go_wp2_with fail
  refine wp_nameY ?_
  intro w2 hw2
  have hB2 : Below w.heap.size w w2 := by rw [hw2]; exact (by repeat' (first | (with_reducible assumption) | (with_reducible exact Below.refl _ _) | (with_reducible refine Below.alloc ?_ ?_ _) | (with_reducible refine Bk.drewN_ ?_ _) | (with_reducible refine Below.drew ?_) | (with_reducible refine Below.setCell ?_ ?_ _) | go_size))
  clear hw2
  have hnn : (0 : Int) = (sumLen (M.s.take 0) : Int) := by simp [sumLen]
  go_loopw [5, 55] (fun v5 v55 wr => ∃ j : Nat, j ≤ M.s.length ∧ v5 = .int .i64 (sumLen (M.s.take j)) ∧ v55 = .int .i64 j ∧ sumLen (M.s.take j) ≤ j * 281474976710656 ∧ w2 = wr) (fun _ v _ => M.s.length - (intOf v).toNat)
  case atStart => exact ⟨0, Nat.zero_le _, by rw [← hnn], rfl, by simp [sumLen], rfl⟩
  case round =>
    obtain ⟨j, hj, rfl, rfl, hsj, rfl⟩ := hrel
    by_cases hlt : j < M.s.length
    · have hL2 := HL.out.next hB2
      obtain ⟨_, _, ev, _, _, hR⟩ := hL2.s
      injection ev with ev _ _
      subst ev
      obtain ⟨bs, os, rfl, hds, hcell⟩ := hR.2 (by omega)
      obtain ⟨u, hu, A1, c1, rfl, _⟩ := hL2.l.1.2 j hlt
      have ec := hcell j _ hu
      have hle := HLL.out _ (getD_mem hlt)
      have hst := sumLen_take M.s j hlt
      generalize (M.s.getD j []).length = lj at *
      have j0 : (0 : Int) ≤ (j : Int) := by omega
      have j1 : (j : Int) < (M.s.length : Int) := by omega
      generalize sumLen (M.s.take j) = sj at *
      have s0 : (0 : Int) ≤ (sj : Int) + (lj : Int) := by omega
      have s1 : (sj : Int) + (lj : Int) ≤ 100000000000000000 := by omega
      have HST := Lib.hid hst; have HLE := Lib.hid hle
      clear hL2 hR hcell hu hle hst
      go_wp2_with fail
      exact ⟨⟨j + 1, by omega, by rw [HST.out]; go_num, by go_num, by have := HST.out; have := HLE.out; omega, trivial⟩, by simp [intOf]; omega⟩
    · obtain rfl : j = M.s.length := by omega
      rw [List.take_length]
      go_wp2_with fail
      go_ret
      exact ⟨ret_bool (by rw [← HV.out, decide_eq_decide]; omega), hB2⟩
theorem decB {p : Prop} [Decidable p] {b : Bool} (h : b = true ↔ p) : decide p = b := by cases b <;> simp_all
theorem c_great {w : World} {D : Nat → Prop} {M : Mach} {vm vs vc vi vo : Value} {sv : List Value} (hL : MLs w D M vm vs vc vi vo sv) (A : Option Addr) (n cap : Nat) (im : Img) (hn : n = im.code.length) (hl : ∀ l ∈ M.s, l.length ≤ 281474976710656) {v : Bool} (hv : greatB im M = v) :
    Calls Tryd.prog 25 #[.agg #[.slice A n cap, .int .i64 im.mem, .int .i64 im.stacks], .agg (mcells M vm vs vc vi vo).toArray] w fun e w' => e = .returned (.bool v) ∧ Below w.heap.size w w' := by
  subst hn
  by_cases h0 : (100 : Int) < (im.code.length : Int)
  · obtain rfl : true = v := by rw [← hv]; symm; unfold greatB; simp only [decide_eq_true_eq]; omega
    exact great_0 hL A _ cap im (by simpa using h0)
  by_cases h1 : (100 : Int) < im.mem
  · obtain rfl : true = v := by rw [← hv]; symm; unfold greatB; simp only [decide_eq_true_eq]; omega
    exact great_1 hL A _ cap im (by simpa using h0) (by simpa using h1)
  by_cases h2 : (100 : Int) < im.stacks
  · obtain rfl : true = v := by rw [← hv]; symm; unfold greatB; simp only [decide_eq_true_eq]; omega
    exact great_2 hL A _ cap im (by simpa using h0) (by simpa using h1) (by simpa using h2)
  by_cases h3 : (100 : Int) < (M.m.length : Int)
  · obtain rfl : true = v := by rw [← hv]; symm; unfold greatB; simp only [decide_eq_true_eq]; omega
    exact great_3 hL A _ cap im (by simpa using h0) (by simpa using h1) (by simpa using h2) (by simpa using h3)
  by_cases h4 : (100 : Int) < (M.s.length : Int)
  · obtain rfl : true = v := by rw [← hv]; symm; unfold greatB; simp only [decide_eq_true_eq]; omega
    exact great_4 hL A _ cap im (by simpa using h0) (by simpa using h1) (by simpa using h2) (by simpa using h3) (by simpa using h4)
  by_cases h5 : (200 : Int) < (M.calls.length : Int)
  · obtain rfl : true = v := by rw [← hv]; symm; unfold greatB; simp only [decide_eq_true_eq]; omega
    exact great_5 hL A _ cap im (by simpa using h0) (by simpa using h1) (by simpa using h2) (by simpa using h3) (by simpa using h4) (by simpa using h5)
  by_cases h6 : (5000 : Int) < (M.inp.length : Int)
  · obtain rfl : true = v := by rw [← hv]; symm; unfold greatB; simp only [decide_eq_true_eq]; omega
    exact great_6 hL A _ cap im (by simpa using h0) (by simpa using h1) (by simpa using h2) (by simpa using h3) (by simpa using h4) (by simpa using h5) (by simpa using h6)
  by_cases h7 : (5000 : Int) < (M.out.length : Int)
  · obtain rfl : true = v := by rw [← hv]; symm; unfold greatB; simp only [decide_eq_true_eq]; omega
    exact great_7 hL A _ cap im (by simpa using h0) (by simpa using h1) (by simpa using h2) (by simpa using h3) (by simpa using h4) (by simpa using h5) (by simpa using h6) (by simpa using h7)
  refine great_loop hL A _ cap im (by simpa using h0) (by simpa using h1) (by simpa using h2) (by simpa using h3) (by simpa using h4) (by simpa using h5) (by simpa using h6) (by simpa using h7) hl ?_
  rw [← hv]; unfold greatB; rw [decide_eq_decide]; omega
end Go.Proofs.YtmccbgnonmgbeaaDoor

/- The walks of the reference's Fits where the first test passes. -/
set_option linter.unusedVariables false
namespace Go.Proofs.YtmccbgnonmgbeaaDoor
open Go.RowKit Bk
set_option maxRecDepth 100000 in
set_option maxHeartbeats 4000000 in
theorem rfits_loopF {w : World} {D : Nat → Prop} {M : Mach} {vm vs vc vi vo : Value} {sv : List Value} (hL : MLs w D M vm vs vc vi vo sv) (A : Option Addr) (n cap : Nat) (im : Img) (hd : M.dir = 1) (t0 : decide (M.pc < 0) = false) (t1 : decide ((n : Int) < M.pc) = false) (t2 : ((M.m.length : Int) != im.mem) = false) (t3 : ((M.s.length : Int) != im.stacks) = false) (t4 : decide (im.stacks < 1) = false) (t5 : decide (100 < (M.calls.length : Int)) = false) (t6 : decide (4096 < (M.inp.length : Int)) = false) (t7 : decide (4096 < (M.out.length : Int)) = false) (t8 : decide (M.fp < 0) = false) (t9 : decide (im.mem < M.fp) = false) (t10 : decide (M.sb < 0) = false) (t11 : decide (im.stacks < M.sb) = false) (hn : n ≤ 65536) (hms : M.s.length ≤ 1000000) {v : Bool} (hv : ((M.s.drop 1).all (fun l => decide (l.length ≤ 1000)) && M.calls.all (fun a => decide (0 ≤ a.1 ∧ a.1 < (n : Int)))) = v) :
    Calls Tryd.prog 28 #[.agg #[.slice A n cap, .int .i64 im.mem, .int .i64 im.stacks], .agg (mcells M vm vs vc vi vo).toArray] w fun e w' => e = .returned (.bool v) ∧ Below w.heap.size w w' := by
  have HL := Lib.hid hL
  obtain ⟨Am, cm, rfl, _⟩ := hL.m; obtain ⟨Av, cv, rfl, _⟩ := hL.s; obtain ⟨Ac, cc, rfl, _⟩ := hL.l.2.1; obtain ⟨Ai, ci, rfl, _⟩ := hL.l.2.2.1; obtain ⟨Ao, co, rfl, _⟩ := hL.l.2.2.2
  obtain ⟨g0, g1, gr, g18, g19, g20, g21, g22, g23, g24, glen⟩ := mc_get (M := M) (vm := .slice Am M.m.length cm) (vs := .slice Av M.s.length cv) (vc := .slice Ac M.calls.length cc) (vi := .slice Ai M.inp.length ci) (vo := .slice Ao M.out.length co) hL.rl
  clear glen gr
  have hcl : M.calls.length ≤ 100 := by simp at t5; omega
  have hs1 : 1 ≤ M.s.length := by simp at t3 t4; omega
  clear hL
  have HV := Lib.hid hv; clear hv
  go_enter Tryd.func28, Tryd.ntmps28
  go_upto_region 1 with fail
  go_step
  simp only [List.append_eq, List.cons_append, List.nil_append]
  go_wp2_with fail
  refine wp_nameY ?_
  intro w2 hw2
  have hB2 : Below w.heap.size w w2 := by rw [hw2]; exact (by repeat' (first | (with_reducible assumption) | (with_reducible exact Below.refl _ _) | (with_reducible refine Below.alloc ?_ ?_ _) | (with_reducible refine Bk.drewN_ ?_ _) | (with_reducible refine Below.drew ?_) | (with_reducible refine Below.setCell ?_ ?_ _) | go_size))
  have KI : Blk w2 w.heap.size 24 #[.slice A n cap, .int .i64 im.mem, .int .i64 im.stacks] := by rw [hw2]; exact (by repeat' (first | with_reducible assumption | (refine Blk.new' ?_ _ _; simp; done) | refine Blk.alloc ?_ _ | refine Blk.drewN ?_ _ | refine Blk.drew ?_))
  have KM : Blk w2 (w.heap.size + 1) 30 (mcells M (.slice Am M.m.length cm) (.slice Av M.s.length cv) (.slice Ac M.calls.length cc) (.slice Ai M.inp.length ci) (.slice Ao M.out.length co)).toArray := by rw [hw2]; exact (by repeat' (first | with_reducible assumption | (refine Blk.new' ?_ _ _; simp; done) | refine Blk.alloc ?_ _ | refine Blk.drewN ?_ _ | refine Blk.drew ?_))
  clear hw2 g0 g1 g18 g21 g22 g23 g24 t0 t1 t2 t3 t4 t5 t6 t7 t8 t9 t10 t11 hd
  obtain ⟨zI, TI, FI⟩ := KI.open_
  have e19 := KM.cell 19; have e20 := KM.cell 20
  simp only [List.getElem?_toArray, g19, g20] at e19 e20
  have zM := KM.lt
  clear g19 g20 KI KM
  have HL2 := Lib.hid (HL.out.next hB2)
  obtain ⟨m, hm⟩ : ∃ m, M.s.length = m + 1 := ⟨M.s.length - 1, by omega⟩
  have HMM := Lib.hid hm
  rw [hm] at e19
  have hm6 : m ≤ 1000000 := by omega
  clear hm hs1 hms
  go_loopw [5] (fun v5 wr => ∃ j : Nat, j ≤ m ∧ v5 = .int .i64 ((j : Int) + 1) ∧ (∀ k, k < j → (M.s.getD (k + 1) []).length ≤ 1000) ∧ w2 = wr) (fun v _ => m + 1 - (intOf v).toNat)
  case atStart => exact ⟨0, Nat.zero_le _, by simp, fun k hk => absurd hk (Nat.not_lt_zero _), rfl⟩
  case round =>
    obtain ⟨j, hj, rfl, hz, rfl⟩ := hrel
    have HZ := Lib.hid hz; clear hz
    by_cases hlt : j < m
    · obtain ⟨_, _, ev, _, _, hR⟩ := HL2.out.s
      injection ev with ev _ evc
      subst ev; subst evc
      obtain ⟨bs, os, rfl, hds, hcell⟩ := hR.2 (by have := HMM.out; omega)
      obtain ⟨u, hu, A1, c1, rfl, _⟩ := HL2.out.l.1.2 (j + 1) (by have := HMM.out; omega)
      have ec := hcell (j + 1) _ hu
      obtain ⟨lj, hlj⟩ : ∃ l, l = (M.s.getD (j + 1) []).length := ⟨_, rfl⟩
      rw [← hlj] at ec
      have HLJ := Lib.hid hlj
      have j0 : (0 : Int) ≤ (j : Int) + 1 := by omega
      have j1 : (j : Int) + 1 < (m : Int) + 1 := by omega
      have jn : ((j : Int) + 1).toNat = j + 1 := by omega
      clear hR hcell hu hlj hds
      by_cases hle : lj ≤ 1000
      · have hd1 : decide (1000 < (lj : Int)) = false := by simp; omega
        go_wp2_with fail
        exact ⟨⟨j + 1, by omega, by go_num, fun k hk => (Nat.lt_succ_iff_lt_or_eq.1 hk).elim (HZ.out k) (fun e => by subst e; rw [← HLJ.out]; exact hle), trivial⟩, by simp [intOf]; omega⟩
      · have hd1 : decide (1000 < (lj : Int)) = true := by simp; omega
        obtain rfl : false = v := by
          rw [← HV.out]; symm; rw [Bool.and_eq_false_iff]; left
          rw [List.all_eq_false]
          refine ⟨M.s.getD (j + 1) [], ?_, by rw [← HLJ.out]; simpa using hle⟩
          have hlt2 : j + 1 < M.s.length := by have := HMM.out; omega
          rw [List.getD_eq_getElem?_getD, List.getElem?_eq_getElem hlt2, Option.getD_some]
          exact List.mem_iff_getElem?.2 ⟨j, by rw [List.getElem?_drop, Nat.add_comm, List.getElem?_eq_getElem hlt2]⟩
        go_wp2_with fail
        go_ret
        exact ⟨rfl, hB2⟩
    · obtain rfl : j = m := by omega
      have hall : (M.s.drop 1).all (fun l => decide (l.length ≤ 1000)) = true := by
        rw [List.all_eq_true]
        intro l hl
        obtain ⟨k, hk⟩ := List.mem_iff_getElem?.1 hl
        rw [List.getElem?_drop] at hk
        have hk2 := (List.getElem?_eq_some_iff.1 hk).1
        have := HZ.out k (by have := HMM.out; omega)
        rw [List.getD_eq_getElem?_getD, Nat.add_comm, hk] at this
        simpa using this
      have hv2 : M.calls.all (fun a => decide (0 ≤ a.1 ∧ a.1 < (n : Int))) = v := by have := HV.out; rwa [hall, Bool.true_and] at this
      have HV2 := Lib.hid hv2; clear hv2 hall HV HZ
      go_wp2_with fail
      go_loopw [6] (fun v6 wr => ∃ j : Nat, j ≤ M.calls.length ∧ v6 = .int .i64 j ∧ (∀ k, k < j → 0 ≤ (M.calls.getD k (0, false)).1 ∧ (M.calls.getD k (0, false)).1 < (n : Int)) ∧ Below w2.heap.size w2 wr) (fun v _ => M.calls.length - (intOf v).toNat)
      case atStart => exact ⟨0, Nat.zero_le _, rfl, fun k hk => absurd hk (Nat.not_lt_zero _), Below.refl _ _⟩
      case round =>
        obtain ⟨q, hq, rfl, hz, hBr⟩ := hrel
        have HZ := Lib.hid hz; clear hz
        have HL3 := Lib.hid (HL2.out.next hBr)
        have hb2r : Below w.heap.size w wr := hB2.next hBr
        have TIr := fun i => (cell_up zI hBr).trans (TI i)
        have e20r := (cell_up (b := w.heap.size + 1) (o := 20) zM hBr).trans e20
        by_cases hlt : q < M.calls.length
        · obtain ⟨_, _, ev, _, _, hR⟩ := HL3.out.l.2.1
          injection ev with ev _ evc
          subst ev; subst evc
          obtain ⟨bs, os, rfl, hds, hcell⟩ := hR.2 (by omega)
          obtain ⟨a0, a1⟩ := actCells_get M.calls q hlt
          have c0 := hcell _ _ a0
          obtain ⟨a, ha⟩ : ∃ a, M.calls.getD q (0, false) = a := ⟨_, rfl⟩
          have HA := Lib.hid ha
          rw [ha] at c0
          have q0 : (0 : Int) ≤ (q : Int) := by omega
          have q1 : (q : Int) < (M.calls.length : Int) := by omega
          clear hR hcell a0 a1 ha hds TI e20 e19 zI FI
          obtain ⟨s, t⟩ := a
          dsimp only at c0
          have badv : ¬ (0 ≤ s ∧ s < (n : Int)) → false = v := fun hn => by
            rw [← HV2.out]; symm
            rw [List.all_eq_false]
            refine ⟨(s, t), ?_, by simpa using hn⟩
            rw [← HA.out, List.getD_eq_getElem?_getD, List.getElem?_eq_getElem hlt, Option.getD_some]
            exact List.getElem_mem hlt
          have BADV := Lib.hid badv; clear badv
          by_cases h0 : s < 0
          · have hd0 : decide (s < 0) = true := by simpa using h0
            obtain rfl := BADV.out (by omega)
            go_wp2_with fail
            go_quiet (fail)
            go_wp2_with fail
            go_ret
            exact ⟨rfl, by repeat' (first | (with_reducible assumption) | (with_reducible exact Below.refl _ _) | (with_reducible refine Below.alloc ?_ ?_ _) | (with_reducible refine Bk.drewN_ ?_ _) | (with_reducible refine Below.drew ?_) | (with_reducible refine Below.setCell ?_ ?_ _) | go_size)⟩
          have hd0 : decide (s < 0) = false := by simpa using h0
          by_cases h1 : (n : Int) ≤ s
          · have hd1 : decide ((n : Int) ≤ s) = true := by simpa using h1
            obtain rfl := BADV.out (by omega)
            go_wp2_with fail
            go_quiet (fail)
            go_wp2_with fail
            go_ret
            exact ⟨rfl, by repeat' (first | (with_reducible assumption) | (with_reducible exact Below.refl _ _) | (with_reducible refine Below.alloc ?_ ?_ _) | (with_reducible refine Bk.drewN_ ?_ _) | (with_reducible refine Below.drew ?_) | (with_reducible refine Below.setCell ?_ ?_ _) | go_size)⟩
          have hd1 : decide ((n : Int) ≤ s) = false := by simpa using h1
          clear BADV
          go_wp2_with fail
          go_quiet (fail)
          go_wp2_with fail
          exact ⟨⟨q + 1, by omega, by go_num, fun k hk => (Nat.lt_succ_iff_lt_or_eq.1 hk).elim (HZ.out k) (fun e => by subst e; rw [HA.out]; exact ⟨by omega, by omega⟩), by repeat' (first | (with_reducible assumption) | (with_reducible exact Below.refl _ _) | (with_reducible refine Below.alloc ?_ ?_ _) | (with_reducible refine Bk.drewN_ ?_ _) | (with_reducible refine Below.drew ?_) | (with_reducible refine Below.setCell ?_ ?_ _) | go_size)⟩, by simp [intOf]; omega⟩
        · obtain rfl : q = M.calls.length := by omega
          obtain rfl : true = v := by
            rw [← HV2.out]; symm
            rw [List.all_eq_true]
            intro a ha
            obtain ⟨k, hk⟩ := List.mem_iff_getElem?.1 ha
            have hk2 := (List.getElem?_eq_some_iff.1 hk).1
            have := HZ.out k hk2
            rw [List.getD_eq_getElem?_getD, hk] at this
            simpa using this
          clear TI e20 e19 zI FI
          go_wp2_with fail
          go_ret
          exact ⟨rfl, hb2r⟩
set_option maxRecDepth 100000 in
set_option maxHeartbeats 4000000 in
theorem rfits_loopB {w : World} {D : Nat → Prop} {M : Mach} {vm vs vc vi vo : Value} {sv : List Value} (hL : MLs w D M vm vs vc vi vo sv) (A : Option Addr) (n cap : Nat) (im : Img) (hd : M.dir = -1) (t0 : decide (M.pc < 0) = false) (t1 : decide ((n : Int) < M.pc) = false) (t2 : ((M.m.length : Int) != im.mem) = false) (t3 : ((M.s.length : Int) != im.stacks) = false) (t4 : decide (im.stacks < 1) = false) (t5 : decide (100 < (M.calls.length : Int)) = false) (t6 : decide (4096 < (M.inp.length : Int)) = false) (t7 : decide (4096 < (M.out.length : Int)) = false) (t8 : decide (M.fp < 0) = false) (t9 : decide (im.mem < M.fp) = false) (t10 : decide (M.sb < 0) = false) (t11 : decide (im.stacks < M.sb) = false) (hn : n ≤ 65536) (hms : M.s.length ≤ 1000000) {v : Bool} (hv : ((M.s.drop 1).all (fun l => decide (l.length ≤ 1000)) && M.calls.all (fun a => decide (0 ≤ a.1 ∧ a.1 < (n : Int)))) = v) :
    Calls Tryd.prog 28 #[.agg #[.slice A n cap, .int .i64 im.mem, .int .i64 im.stacks], .agg (mcells M vm vs vc vi vo).toArray] w fun e w' => e = .returned (.bool v) ∧ Below w.heap.size w w' := by
  have HL := Lib.hid hL
  obtain ⟨Am, cm, rfl, _⟩ := hL.m; obtain ⟨Av, cv, rfl, _⟩ := hL.s; obtain ⟨Ac, cc, rfl, _⟩ := hL.l.2.1; obtain ⟨Ai, ci, rfl, _⟩ := hL.l.2.2.1; obtain ⟨Ao, co, rfl, _⟩ := hL.l.2.2.2
  obtain ⟨g0, g1, gr, g18, g19, g20, g21, g22, g23, g24, glen⟩ := mc_get (M := M) (vm := .slice Am M.m.length cm) (vs := .slice Av M.s.length cv) (vc := .slice Ac M.calls.length cc) (vi := .slice Ai M.inp.length ci) (vo := .slice Ao M.out.length co) hL.rl
  clear glen gr
  have hcl : M.calls.length ≤ 100 := by simp at t5; omega
  have hs1 : 1 ≤ M.s.length := by simp at t3 t4; omega
  clear hL
  have HV := Lib.hid hv; clear hv
  go_enter Tryd.func28, Tryd.ntmps28
  go_upto_region 1 with fail
  go_step
  simp only [List.append_eq, List.cons_append, List.nil_append]
  go_wp2_with fail
  refine wp_nameY ?_
  intro w2 hw2
  have hB2 : Below w.heap.size w w2 := by rw [hw2]; exact (by repeat' (first | (with_reducible assumption) | (with_reducible exact Below.refl _ _) | (with_reducible refine Below.alloc ?_ ?_ _) | (with_reducible refine Bk.drewN_ ?_ _) | (with_reducible refine Below.drew ?_) | (with_reducible refine Below.setCell ?_ ?_ _) | go_size))
  have KI : Blk w2 w.heap.size 24 #[.slice A n cap, .int .i64 im.mem, .int .i64 im.stacks] := by rw [hw2]; exact (by repeat' (first | with_reducible assumption | (refine Blk.new' ?_ _ _; simp; done) | refine Blk.alloc ?_ _ | refine Blk.drewN ?_ _ | refine Blk.drew ?_))
  have KM : Blk w2 (w.heap.size + 1) 30 (mcells M (.slice Am M.m.length cm) (.slice Av M.s.length cv) (.slice Ac M.calls.length cc) (.slice Ai M.inp.length ci) (.slice Ao M.out.length co)).toArray := by rw [hw2]; exact (by repeat' (first | with_reducible assumption | (refine Blk.new' ?_ _ _; simp; done) | refine Blk.alloc ?_ _ | refine Blk.drewN ?_ _ | refine Blk.drew ?_))
  clear hw2 g0 g1 g18 g21 g22 g23 g24 t0 t1 t2 t3 t4 t5 t6 t7 t8 t9 t10 t11 hd
  obtain ⟨zI, TI, FI⟩ := KI.open_
  have e19 := KM.cell 19; have e20 := KM.cell 20
  simp only [List.getElem?_toArray, g19, g20] at e19 e20
  have zM := KM.lt
  clear g19 g20 KI KM
  have HL2 := Lib.hid (HL.out.next hB2)
  obtain ⟨m, hm⟩ : ∃ m, M.s.length = m + 1 := ⟨M.s.length - 1, by omega⟩
  have HMM := Lib.hid hm
  rw [hm] at e19
  have hm6 : m ≤ 1000000 := by omega
  clear hm hs1 hms
  go_loopw [5] (fun v5 wr => ∃ j : Nat, j ≤ m ∧ v5 = .int .i64 ((j : Int) + 1) ∧ (∀ k, k < j → (M.s.getD (k + 1) []).length ≤ 1000) ∧ w2 = wr) (fun v _ => m + 1 - (intOf v).toNat)
  case atStart => exact ⟨0, Nat.zero_le _, by simp, fun k hk => absurd hk (Nat.not_lt_zero _), rfl⟩
  case round =>
    obtain ⟨j, hj, rfl, hz, rfl⟩ := hrel
    have HZ := Lib.hid hz; clear hz
    by_cases hlt : j < m
    · obtain ⟨_, _, ev, _, _, hR⟩ := HL2.out.s
      injection ev with ev _ evc
      subst ev; subst evc
      obtain ⟨bs, os, rfl, hds, hcell⟩ := hR.2 (by have := HMM.out; omega)
      obtain ⟨u, hu, A1, c1, rfl, _⟩ := HL2.out.l.1.2 (j + 1) (by have := HMM.out; omega)
      have ec := hcell (j + 1) _ hu
      obtain ⟨lj, hlj⟩ : ∃ l, l = (M.s.getD (j + 1) []).length := ⟨_, rfl⟩
      rw [← hlj] at ec
      have HLJ := Lib.hid hlj
      have j0 : (0 : Int) ≤ (j : Int) + 1 := by omega
      have j1 : (j : Int) + 1 < (m : Int) + 1 := by omega
      have jn : ((j : Int) + 1).toNat = j + 1 := by omega
      clear hR hcell hu hlj hds
      by_cases hle : lj ≤ 1000
      · have hd1 : decide (1000 < (lj : Int)) = false := by simp; omega
        go_wp2_with fail
        exact ⟨⟨j + 1, by omega, by go_num, fun k hk => (Nat.lt_succ_iff_lt_or_eq.1 hk).elim (HZ.out k) (fun e => by subst e; rw [← HLJ.out]; exact hle), trivial⟩, by simp [intOf]; omega⟩
      · have hd1 : decide (1000 < (lj : Int)) = true := by simp; omega
        obtain rfl : false = v := by
          rw [← HV.out]; symm; rw [Bool.and_eq_false_iff]; left
          rw [List.all_eq_false]
          refine ⟨M.s.getD (j + 1) [], ?_, by rw [← HLJ.out]; simpa using hle⟩
          have hlt2 : j + 1 < M.s.length := by have := HMM.out; omega
          rw [List.getD_eq_getElem?_getD, List.getElem?_eq_getElem hlt2, Option.getD_some]
          exact List.mem_iff_getElem?.2 ⟨j, by rw [List.getElem?_drop, Nat.add_comm, List.getElem?_eq_getElem hlt2]⟩
        go_wp2_with fail
        go_ret
        exact ⟨rfl, hB2⟩
    · obtain rfl : j = m := by omega
      have hall : (M.s.drop 1).all (fun l => decide (l.length ≤ 1000)) = true := by
        rw [List.all_eq_true]
        intro l hl
        obtain ⟨k, hk⟩ := List.mem_iff_getElem?.1 hl
        rw [List.getElem?_drop] at hk
        have hk2 := (List.getElem?_eq_some_iff.1 hk).1
        have := HZ.out k (by have := HMM.out; omega)
        rw [List.getD_eq_getElem?_getD, Nat.add_comm, hk] at this
        simpa using this
      have hv2 : M.calls.all (fun a => decide (0 ≤ a.1 ∧ a.1 < (n : Int))) = v := by have := HV.out; rwa [hall, Bool.true_and] at this
      have HV2 := Lib.hid hv2; clear hv2 hall HV HZ
      go_wp2_with fail
      go_loopw [6] (fun v6 wr => ∃ j : Nat, j ≤ M.calls.length ∧ v6 = .int .i64 j ∧ (∀ k, k < j → 0 ≤ (M.calls.getD k (0, false)).1 ∧ (M.calls.getD k (0, false)).1 < (n : Int)) ∧ Below w2.heap.size w2 wr) (fun v _ => M.calls.length - (intOf v).toNat)
      case atStart => exact ⟨0, Nat.zero_le _, rfl, fun k hk => absurd hk (Nat.not_lt_zero _), Below.refl _ _⟩
      case round =>
        obtain ⟨q, hq, rfl, hz, hBr⟩ := hrel
        have HZ := Lib.hid hz; clear hz
        have HL3 := Lib.hid (HL2.out.next hBr)
        have hb2r : Below w.heap.size w wr := hB2.next hBr
        have TIr := fun i => (cell_up zI hBr).trans (TI i)
        have e20r := (cell_up (b := w.heap.size + 1) (o := 20) zM hBr).trans e20
        by_cases hlt : q < M.calls.length
        · obtain ⟨_, _, ev, _, _, hR⟩ := HL3.out.l.2.1
          injection ev with ev _ evc
          subst ev; subst evc
          obtain ⟨bs, os, rfl, hds, hcell⟩ := hR.2 (by omega)
          obtain ⟨a0, a1⟩ := actCells_get M.calls q hlt
          have c0 := hcell _ _ a0
          obtain ⟨a, ha⟩ : ∃ a, M.calls.getD q (0, false) = a := ⟨_, rfl⟩
          have HA := Lib.hid ha
          rw [ha] at c0
          have q0 : (0 : Int) ≤ (q : Int) := by omega
          have q1 : (q : Int) < (M.calls.length : Int) := by omega
          clear hR hcell a0 a1 ha hds TI e20 e19 zI FI
          obtain ⟨s, t⟩ := a
          dsimp only at c0
          have badv : ¬ (0 ≤ s ∧ s < (n : Int)) → false = v := fun hn => by
            rw [← HV2.out]; symm
            rw [List.all_eq_false]
            refine ⟨(s, t), ?_, by simpa using hn⟩
            rw [← HA.out, List.getD_eq_getElem?_getD, List.getElem?_eq_getElem hlt, Option.getD_some]
            exact List.getElem_mem hlt
          have BADV := Lib.hid badv; clear badv
          by_cases h0 : s < 0
          · have hd0 : decide (s < 0) = true := by simpa using h0
            obtain rfl := BADV.out (by omega)
            go_wp2_with fail
            go_quiet (fail)
            go_wp2_with fail
            go_ret
            exact ⟨rfl, by repeat' (first | (with_reducible assumption) | (with_reducible exact Below.refl _ _) | (with_reducible refine Below.alloc ?_ ?_ _) | (with_reducible refine Bk.drewN_ ?_ _) | (with_reducible refine Below.drew ?_) | (with_reducible refine Below.setCell ?_ ?_ _) | go_size)⟩
          have hd0 : decide (s < 0) = false := by simpa using h0
          by_cases h1 : (n : Int) ≤ s
          · have hd1 : decide ((n : Int) ≤ s) = true := by simpa using h1
            obtain rfl := BADV.out (by omega)
            go_wp2_with fail
            go_quiet (fail)
            go_wp2_with fail
            go_ret
            exact ⟨rfl, by repeat' (first | (with_reducible assumption) | (with_reducible exact Below.refl _ _) | (with_reducible refine Below.alloc ?_ ?_ _) | (with_reducible refine Bk.drewN_ ?_ _) | (with_reducible refine Below.drew ?_) | (with_reducible refine Below.setCell ?_ ?_ _) | go_size)⟩
          have hd1 : decide ((n : Int) ≤ s) = false := by simpa using h1
          clear BADV
          go_wp2_with fail
          go_quiet (fail)
          go_wp2_with fail
          exact ⟨⟨q + 1, by omega, by go_num, fun k hk => (Nat.lt_succ_iff_lt_or_eq.1 hk).elim (HZ.out k) (fun e => by subst e; rw [HA.out]; exact ⟨by omega, by omega⟩), by repeat' (first | (with_reducible assumption) | (with_reducible exact Below.refl _ _) | (with_reducible refine Below.alloc ?_ ?_ _) | (with_reducible refine Bk.drewN_ ?_ _) | (with_reducible refine Below.drew ?_) | (with_reducible refine Below.setCell ?_ ?_ _) | go_size)⟩, by simp [intOf]; omega⟩
        · obtain rfl : q = M.calls.length := by omega
          obtain rfl : true = v := by
            rw [← HV2.out]; symm
            rw [List.all_eq_true]
            intro a ha
            obtain ⟨k, hk⟩ := List.mem_iff_getElem?.1 ha
            have hk2 := (List.getElem?_eq_some_iff.1 hk).1
            have := HZ.out k hk2
            rw [List.getD_eq_getElem?_getD, hk] at this
            simpa using this
          clear TI e20 e19 zI FI
          go_wp2_with fail
          go_ret
          exact ⟨rfl, hb2r⟩
end Go.Proofs.YtmccbgnonmgbeaaDoor
