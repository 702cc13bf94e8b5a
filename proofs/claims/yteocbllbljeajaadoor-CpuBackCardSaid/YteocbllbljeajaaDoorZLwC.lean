/- The walks of the reference's Fits where the first test passes. -/
import Derived.Test.YteocbllbljeajaaDoorZLwA
set_option linter.unusedVariables false
set_option linter.unusedSimpArgs false
set_option maxRecDepth 100000
set_option maxHeartbeats 8000000
namespace Go.Proofs.YteocbllbljeajaaDoor
open Go.RowKit Bk
variable {w : World} {D : Nat → Prop} {P : Pl} {M : Mach} {vm vs vc vi vo : Value} {sv : List Value}
theorem rfits_loop (hL : MLs w D M vm vs vc vi vo sv) (A : Option Addr) (n cap : Nat) (im : Img) (hd : M.dir = 1 ∨ M.dir = -1) (t0 : decide (M.pc < 0) = false) (t1 : decide ((n : Int) < M.pc) = false) (t2 : ((M.m.length : Int) != im.mem) = false) (t3 : ((M.s.length : Int) != im.stacks) = false) (t4 : decide (im.stacks < 1) = false) (t5 : decide (100 < (M.calls.length : Int)) = false) (t6 : decide (4096 < (M.inp.length : Int)) = false) (t7 : decide (4096 < (M.out.length : Int)) = false) (t8 : decide (M.fp < 0) = false) (t9 : decide (im.mem < M.fp) = false) (t10 : decide (M.sb < 0) = false) (t11 : decide (im.stacks < M.sb) = false) (hn : n ≤ 65536) (hms : M.s.length ≤ 1000000) {v : Bool} (hv : ((M.s.drop 1).all (fun l => decide (l.length ≤ 1000)) && M.calls.all (fun a => decide (0 ≤ a.1 ∧ a.1 < (n : Int)))) = v) :
    Calls Tryd.prog 29 #[.agg #[.slice A n cap, .int .i64 im.mem, .int .i64 im.stacks], .agg (mcells M vm vs vc vi vo).toArray] w fun e w' => e = .returned (.bool v) ∧ Below w.heap.size w w' := by
  rcases hd with hd | hd
  all_goals
    have HL := Lib.hid hL
    obtain ⟨Am, cm, rfl, _⟩ := hL.m; obtain ⟨Av, cv, rfl, _⟩ := hL.s; obtain ⟨Ac, cc, rfl, _⟩ := hL.l.2.1; obtain ⟨Ai, ci, rfl, _⟩ := hL.l.2.2.1; obtain ⟨Ao, co, rfl, _⟩ := hL.l.2.2.2
    obtain ⟨g0, g1, gr, g18, g19, g20, g21, g22, g23, g24, glen⟩ := mc_get (M := M) (vm := .slice Am M.m.length cm) (vs := .slice Av M.s.length cv) (vc := .slice Ac M.calls.length cc) (vi := .slice Ai M.inp.length ci) (vo := .slice Ao M.out.length co) hL.rl
    clear glen gr
    have hcl : M.calls.length ≤ 100 := by simp at t5; omega
    have hs1 : 1 ≤ M.s.length := by simp at t3 t4; omega
    clear hL
    have HV := Lib.hid hv; clear hv
    go_enter Tryd.func29, Tryd.ntmps29
    go_upto_region 1 with fail
    go_step
    simp only [List.append_eq, List.cons_append, List.nil_append]
    go_wp2_with fail
    refine wp_nameY ?_
    intro w2 hw2
    have hB2 : Below w.heap.size w w2 := by rw [hw2]; exact (by go_grown)
    have KI : Blk w2 w.heap.size 24 #[.slice A n cap, .int .i64 im.mem, .int .i64 im.stacks] := by rw [hw2]; exact (by repeat' (first | assumption | exact Blk.new' (by simp) _ _ | apply Blk.alloc | apply Blk.drew))
    have KM : Blk w2 (w.heap.size + 1) 30 (mcells M (.slice Am M.m.length cm) (.slice Av M.s.length cv) (.slice Ac M.calls.length cc) (.slice Ai M.inp.length ci) (.slice Ao M.out.length co)).toArray := by rw [hw2]; exact (by repeat' (first | assumption | exact Blk.new' (by simp) _ _ | apply Blk.alloc | apply Blk.drew))
    clear hw2 g0 g1 g18 g21 g22 g23 g24 t0 t1 t2 t3 t4 t5 t6 t7 t8 t9 t10 t11 hd
    obtain ⟨zI, TI, FI⟩ := KI.open_
    have e19 := KM.cell 19; have e20 := KM.cell 20
    simp only [List.getElem?_toArray, g19, g20] at e19 e20
    have zM := KM.lt
    clear g19 g20 KI KM
    have HL2 := Lib.hid (HL.out.next hB2)
    obtain ⟨m, hm⟩ : ∃ m, M.s.length = m + 1 := ⟨M.s.length - 1, by omega⟩
    have HMM := Lib.hid hm
    rw [hm] at e19
    have hm6 : m ≤ 1000000 := by omega
    clear hm hs1 hms
    go_loopw [5] (fun v5 wr => ∃ j : Nat, j ≤ m ∧ v5 = .int .i64 ((j : Int) + 1) ∧ (∀ k, k < j → (M.s.getD (k + 1) []).length ≤ 1000) ∧ w2 = wr) (fun v _ => m + 1 - (intOf v).toNat)
    case atStart => exact ⟨0, Nat.zero_le _, by simp, fun k hk => absurd hk (Nat.not_lt_zero _), rfl⟩
    case round =>
      obtain ⟨j, hj, rfl, hz, rfl⟩ := hrel
      have HZ := Lib.hid hz; clear hz
      by_cases hlt : j < m
      · obtain ⟨_, _, ev, _, _, hR⟩ := HL2.out.s
        injection ev with ev _ evc
        subst ev; subst evc
        obtain ⟨bs, os, rfl, hds, hcell⟩ := hR.2 (by have := HMM.out; omega)
        obtain ⟨u, hu, A1, c1, rfl, _⟩ := HL2.out.l.1.2 (j + 1) (by have := HMM.out; omega)
        have ec := hcell (j + 1) _ hu
        obtain ⟨lj, hlj⟩ : ∃ l, l = (M.s.getD (j + 1) []).length := ⟨_, rfl⟩
        rw [← hlj] at ec
        have HLJ := Lib.hid hlj
        have j0 : (0 : Int) ≤ (j : Int) + 1 := by omega
        have j1 : (j : Int) + 1 < (m : Int) + 1 := by omega
        have jn : ((j : Int) + 1).toNat = j + 1 := by omega
        clear hR hcell hu hlj hds
        by_cases hle : lj ≤ 1000
        · have hd1 : decide (1000 < (lj : Int)) = false := by simp; omega
          go_wp2_with fail
          exact ⟨⟨j + 1, by omega, by go_num, fun k hk => (Nat.lt_succ_iff_lt_or_eq.1 hk).elim (HZ.out k) (fun e => by subst e; rw [← HLJ.out]; exact hle), trivial⟩, by simp [intOf]; omega⟩
        · have hd1 : decide (1000 < (lj : Int)) = true := by simp; omega
          obtain rfl : false = v := by
            rw [← HV.out]; symm; rw [Bool.and_eq_false_iff]; left
            rw [List.all_eq_false]
            refine ⟨M.s.getD (j + 1) [], ?_, by rw [← HLJ.out]; simpa using hle⟩
            have hlt2 : j + 1 < M.s.length := by have := HMM.out; omega
            rw [List.getD_eq_getElem?_getD, List.getElem?_eq_getElem hlt2, Option.getD_some]
            exact List.mem_iff_getElem?.2 ⟨j, by rw [List.getElem?_drop, Nat.add_comm, List.getElem?_eq_getElem hlt2]⟩
          go_wp2_with fail
          go_ret
          exact ⟨rfl, hB2⟩
      · obtain rfl : j = m := by omega
        have hall : (M.s.drop 1).all (fun l => decide (l.length ≤ 1000)) = true := by
          rw [List.all_eq_true]
          intro l hl
          obtain ⟨k, hk⟩ := List.mem_iff_getElem?.1 hl
          rw [List.getElem?_drop] at hk
          have hk2 := (List.getElem?_eq_some_iff.1 hk).1
          have := HZ.out k (by have := HMM.out; omega)
          rw [List.getD_eq_getElem?_getD, Nat.add_comm, hk] at this
          simpa using this
        have hv2 : M.calls.all (fun a => decide (0 ≤ a.1 ∧ a.1 < (n : Int))) = v := by have := HV.out; rwa [hall, Bool.true_and] at this
        have HV2 := Lib.hid hv2; clear hv2 hall HV HZ
        go_wp2_with fail
        go_loopw [6] (fun v6 wr => ∃ j : Nat, j ≤ M.calls.length ∧ v6 = .int .i64 j ∧ (∀ k, k < j → 0 ≤ (M.calls.getD k (0, false)).1 ∧ (M.calls.getD k (0, false)).1 < (n : Int)) ∧ Below w2.heap.size w2 wr) (fun v _ => M.calls.length - (intOf v).toNat)
        case atStart => exact ⟨0, Nat.zero_le _, rfl, fun k hk => absurd hk (Nat.not_lt_zero _), Below.refl _ _⟩
        case round =>
          obtain ⟨q, hq, rfl, hz, hBr⟩ := hrel
          have HZ := Lib.hid hz; clear hz
          have HL3 := Lib.hid (HL2.out.next hBr)
          have hb2r : Below w.heap.size w wr := hB2.next hBr
          have TIr := fun i => (cell_up zI hBr).trans (TI i)
          have e20r := (cell_up (b := w.heap.size + 1) (o := 20) zM hBr).trans e20
          by_cases hlt : q < M.calls.length
          · obtain ⟨_, _, ev, _, _, hR⟩ := HL3.out.l.2.1
            injection ev with ev _ evc
            subst ev; subst evc
            obtain ⟨bs, os, rfl, hds, hcell⟩ := hR.2 (by omega)
            obtain ⟨a0, a1⟩ := actCells_get M.calls q hlt
            have c0 := hcell _ _ a0
            obtain ⟨a, ha⟩ : ∃ a, M.calls.getD q (0, false) = a := ⟨_, rfl⟩
            have HA := Lib.hid ha
            rw [ha] at c0
            have q0 : (0 : Int) ≤ (q : Int) := by omega
            have q1 : (q : Int) < (M.calls.length : Int) := by omega
            clear hR hcell a0 a1 ha hds TI e20 e19 zI FI
            obtain ⟨s, t⟩ := a
            dsimp only at c0
            have badv : ¬ (0 ≤ s ∧ s < (n : Int)) → false = v := fun hn => by
              rw [← HV2.out]; symm
              rw [List.all_eq_false]
              refine ⟨(s, t), ?_, by simpa using hn⟩
              rw [← HA.out, List.getD_eq_getElem?_getD, List.getElem?_eq_getElem hlt, Option.getD_some]
              exact List.getElem_mem hlt
            have BADV := Lib.hid badv; clear badv
            by_cases h0 : s < 0
            · have hd0 : decide (s < 0) = true := by simpa using h0
              obtain rfl := BADV.out (by omega)
              go_wp2_with fail
              go_quiet (fail)
              go_wp2_with fail
              go_ret
              exact ⟨rfl, by repeat' (first | (with_reducible assumption) | (with_reducible exact Below.refl _ _) | (with_reducible refine Below.alloc ?_ ?_ _) | (with_reducible refine Bk.drewN_ ?_ _) | (with_reducible refine Below.drew ?_) | (with_reducible refine Below.setCell ?_ ?_ _) | go_size)⟩
            have hd0 : decide (s < 0) = false := by simpa using h0
            by_cases h1 : (n : Int) ≤ s
            · have hd1 : decide ((n : Int) ≤ s) = true := by simpa using h1
              obtain rfl := BADV.out (by omega)
              go_wp2_with fail
              go_quiet (fail)
              go_wp2_with fail
              go_ret
              exact ⟨rfl, by repeat' (first | (with_reducible assumption) | (with_reducible exact Below.refl _ _) | (with_reducible refine Below.alloc ?_ ?_ _) | (with_reducible refine Bk.drewN_ ?_ _) | (with_reducible refine Below.drew ?_) | (with_reducible refine Below.setCell ?_ ?_ _) | go_size)⟩
            have hd1 : decide ((n : Int) ≤ s) = false := by simpa using h1
            clear BADV
            go_wp2_with fail
            go_quiet (fail)
            go_wp2_with fail
            exact ⟨⟨q + 1, by omega, by go_num, fun k hk => (Nat.lt_succ_iff_lt_or_eq.1 hk).elim (HZ.out k) (fun e => by subst e; rw [HA.out]; exact ⟨by omega, by omega⟩), by repeat' (first | (with_reducible assumption) | (with_reducible exact Below.refl _ _) | (with_reducible refine Below.alloc ?_ ?_ _) | (with_reducible refine Bk.drewN_ ?_ _) | (with_reducible refine Below.drew ?_) | (with_reducible refine Below.setCell ?_ ?_ _) | go_size)⟩, by simp [intOf]; omega⟩
          · obtain rfl : q = M.calls.length := by omega
            obtain rfl : true = v := by
              rw [← HV2.out]; symm
              rw [List.all_eq_true]
              intro a ha
              obtain ⟨k, hk⟩ := List.mem_iff_getElem?.1 ha
              have hk2 := (List.getElem?_eq_some_iff.1 hk).1
              have := HZ.out k hk2
              rw [List.getD_eq_getElem?_getD, hk] at this
              simpa using this
            clear TI e20 e19 zI FI
            go_wp2_with fail
            go_ret
            exact ⟨rfl, hb2r⟩
end Go.Proofs.YteocbllbljeajaaDoor
