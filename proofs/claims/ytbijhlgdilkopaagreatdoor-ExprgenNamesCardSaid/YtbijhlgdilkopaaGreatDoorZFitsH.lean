/- cpu.fits with both answers, where the first tests hold. -/
import Derived.Test.YtbijhlgdilkopaaGreatDoorZFitsG
import Derived.Test.YtbijhlgdilkopaaGreatDoorZPartner
set_option linter.unusedVariables false
set_option linter.unusedSimpArgs false
set_option maxRecDepth 100000
set_option maxHeartbeats 8000000
namespace Go.Proofs.YtbijhlgdilkopaaGreatDoor
open Go.RowKit Bk
theorem fg_restN {w : World} {D : Nat → Prop} {b off : Nat} {M : Mach} {vm vs vc vi vo : Value} {sv : List Value} (h : MRd w D b off M vm vs vc vi vo sv) (A : Option Addr) (n cap : Nat) (im : Img) (hd : M.dir = 1 ∨ M.dir = -1) (t0 : decide (M.pc < 0) = false) (t1 : decide ((n : Int) < M.pc) = false) (u0 : ((M.m.length : Int) != im.mem) = false) (u1 : ((M.s.length : Int) != im.stacks) = false) (u2 : decide ((M.s.length : Int) < 1) = false) (m : Nat) (hm : M.s.length = m + 1) (hm6 : m ≤ 1000000) (hcl6 : M.calls.length ≤ 17592186044400) (hn6 : n ≤ 65536) (c : Nat) (hc : 0 < c) (hcap : ∀ A n cap, vs = .slice A n cap → cap = c + 1) {v : Bool} (hv : ((M.s.drop 1).all (fun l => decide (l.length ≤ 1000)) && (M.calls.all (fun a => decide (0 ≤ a.1 ∧ a.1 < (n : Int))) && decide (M.calls.length ≤ 100 ∧ M.inp.length ≤ 4096 ∧ M.out.length ≤ 4096 ∧ 0 ≤ M.fp ∧ M.fp ≤ im.mem ∧ 0 ≤ M.sb ∧ M.sb ≤ im.stacks))) = v) :
    Calls Tryz.prog 53 #[.agg #[.slice A n cap, .int .i64 im.mem, .int .i64 im.stacks], .pointer (some ⟨b, off, none⟩)] w fun e w' => e = .returned (.bool v) ∧ Below w.heap.size w w' := by
  rcases hd with hd | hd
  all_goals
    have hv' := hv
    have HV := Lib.hid hv
    obtain ⟨Av, cv, hvs, hcv, _, hRs⟩ := h.s
    obtain ⟨bs, os, rfl, hds, hcell⟩ := hRs.2 (by omega)
    obtain rfl : cv = c + 1 := hcap _ _ _ hvs
    subst hvs
    have hbs : bs < w.heap.size := h.d _ hds
    have HCELL := Lib.hid hcell
    have hmc : m + 1 ≤ c + 1 := by omega
    clear hcell hv hv' hRs hds hcap hcv
    have t3 : decide ((m : Int) + 1 < 1) = false := by simp; omega
    have t4 : ((m : Int) + 1 != im.stacks) = false := by have := u1; simp at this ⊢; omega
    have HMM := Lib.hid hm
    obtain ⟨Am, cm, rfl, _⟩ := h.m; obtain ⟨Ac, cc, rfl, _⟩ := h.lc; obtain ⟨Ai, ci, rfl, _⟩ := h.li; obtain ⟨Ao, co, rfl, _⟩ := h.lo; have HM0 := Lib.hid h; clear h; go_enter Tryz.func53, Tryz.ntmps53; go_upto_region 1 with fail; refine wp_nameY ?_; intro w1 hw1; have hB_w1 : Below w.heap.size w w1 := (by rw [hw1]; exact (by go_grown)); have K_1 : Blk w1 w.heap.size 82 #[.slice A n cap, .int .i64 im.mem, .int .i64 im.stacks] := (by rw [hw1]; exact (by repeat' (first | assumption | exact Blk.new' (by simp) _ _ | apply Blk.alloc | apply Blk.drew))); have HM := Lib.hid (HM0.out.next hB_w1); clear hw1; obtain ⟨z_1, T_1, F_1⟩ := K_1.open_; have H_1 := Lib.hid K_1; clear K_1; have hbl := HM.out.lt; have e0 := HM.out.c0; have e1 := HM.out.c1; have e18 := HM.out.c18; have e19 := HM.out.c19
    rw [hm] at e19
    clear hm u1 u2
    have hc0 : 0 < c := hc
    have hmc' : m ≤ c := by omega
    go_wp2_with fail
    go_quiet (fail)
    go_wp2_with fail
    go_quiet (fail)
    go_wp2_with fail
    refine wp_nameY ?_
    intro w2 hw2
    have hB2 : Below w1.heap.size w1 w2 := by rw [hw2]; exact (by repeat' (first | (with_reducible assumption) | (with_reducible exact Below.refl _ _) | (with_reducible refine Below.alloc ?_ ?_ _) | (with_reducible refine Bk.drewN_ ?_ _) | (with_reducible refine Below.drew ?_) | (with_reducible refine Below.setCell ?_ ?_ _) | go_size))
    have hB_w2 := hB_w1.next hB2
    have KI := H_1.out.next hB2
    have HM2 := Lib.hid (HM.out.next hB2)
    clear hw2 e0 e1 e18 e19 T_1 z_1 F_1 HM
    obtain ⟨z_1, T_1, F_1⟩ := KI.open_
    have KIh := Lib.hid KI
    clear KI
    go_loopw [70] (fun v70 wr => ∃ j : Nat, j ≤ m ∧ v70 = .int .i64 j ∧ (∀ k, k < j → (M.s.getD (k + 1) []).length ≤ 1000) ∧ w2 = wr) (fun v _ => m - (intOf v).toNat)
    case atStart => exact ⟨0, Nat.zero_le _, rfl, fun k hk => absurd hk (Nat.not_lt_zero _), rfl⟩
    case round =>
      obtain ⟨j, hj, rfl, hz, rfl⟩ := hrel
      have HZ := Lib.hid hz; clear hz
      by_cases hlt : j < m
      · obtain ⟨u, hu, A1, c1, rfl, _⟩ := HM0.out.ls.2 (j + 1) (by have := HMM.out; omega)
        have ec := (hB_w2.cell (p := ⟨bs, os + (j + 1), none⟩) hbs).trans (HCELL.out (j + 1) _ hu)
        rw [show os + (j + 1) = os + 1 + j by omega] at ec
        obtain ⟨lj, hlj⟩ : ∃ l, l = (M.s.getD (j + 1) []).length := ⟨_, rfl⟩
        rw [← hlj] at ec
        have HLJ := Lib.hid hlj
        have j0 : (0 : Int) ≤ (j : Int) := by omega
        have j1 : (j : Int) < (m : Int) := by omega
        clear hu hlj
        by_cases hle : lj ≤ 1000
        · have hd1 : decide (1000 < (lj : Int)) = false := by simp; omega
          go_wp2_with fail
          exact ⟨⟨j + 1, by omega, by go_num, fun k hk => (Nat.lt_succ_iff_lt_or_eq.1 hk).elim (HZ.out k) (fun e => by subst e; rw [← HLJ.out]; exact hle), trivial⟩, by simp [intOf]; omega⟩
        · have hd1 : decide (1000 < (lj : Int)) = true := by simp; omega
          obtain rfl : false = v := by
            rw [← HV.out]; symm; rw [Bool.and_eq_false_iff]; left
            rw [List.all_eq_false]
            have hlt2 : j + 1 < M.s.length := by have := HMM.out; omega
            refine ⟨M.s.getD (j + 1) [], ?_, by rw [← HLJ.out]; simpa using hle⟩
            rw [List.getD_eq_getElem?_getD, List.getElem?_eq_getElem hlt2, Option.getD_some]
            exact List.mem_iff_getElem?.2 ⟨j, by rw [List.getElem?_drop, Nat.add_comm, List.getElem?_eq_getElem hlt2]⟩
          go_wp2_with fail
          go_ret
          exact ⟨rfl, hB_w2⟩
      · obtain rfl : j = m := by omega
        have hall : (M.s.drop 1).all (fun l => decide (l.length ≤ 1000)) = true := by
          rw [List.all_eq_true]
          intro l hl
          obtain ⟨k, hk⟩ := List.mem_iff_getElem?.1 hl
          rw [List.getElem?_drop] at hk
          have hk2 := (List.getElem?_eq_some_iff.1 hk).1
          have := HZ.out k (by have := HMM.out; omega)
          rw [List.getD_eq_getElem?_getD, Nat.add_comm, hk] at this
          simpa using this
        have hv2 := HV.out
        rw [hall, Bool.true_and] at hv2
        have HV2 := Lib.hid hv2; clear hv2 hall HV HZ HCELL
        have e20 := HM2.out.c20
        go_wp2_with fail
        clear T_1 F_1
        go_loopw [83] (fun v83 wr => ∃ q : Nat, q ≤ M.calls.length ∧ v83 = .int .i64 q ∧ (∀ k, k < q → 0 ≤ (M.calls.getD k (0, false)).1 ∧ (M.calls.getD k (0, false)).1 < (n : Int)) ∧ Below w2.heap.size w2 wr) (fun v _ => M.calls.length - (intOf v).toNat)
        case atStart => exact ⟨0, Nat.zero_le _, rfl, fun k hk => absurd hk (Nat.not_lt_zero _), Below.refl _ _⟩
        case round =>
          obtain ⟨q, hq, rfl, hz, hBr⟩ := hrel
          have HZ := Lib.hid hz; clear hz
          have hB_wr := hB_w2.next hBr
          have KR := KIh.out.next hBr
          obtain ⟨zI, TI, FI⟩ := KR.open_
          have HKR := Lib.hid KR
          clear KR
          clear e20
          by_cases hlt : q < M.calls.length
          · obtain ⟨_, _, ev, _, _, hR⟩ := HM2.out.lc
            injection ev with ev _ evc
            subst ev; subst evc
            obtain ⟨bc, oc, rfl, hds, hcell⟩ := hR.2 (by omega)
            have hbc := HM2.out.d _ hds
            obtain ⟨a0, a1⟩ := actCells_get M.calls q hlt
            have c0 := (hBr.cell (p := ⟨bc, oc + q * 2, none⟩) hbc).trans (hcell _ _ a0)
            have c1 := (hBr.cell (p := ⟨bc, oc + (q * 2 + 1), none⟩) hbc).trans (hcell _ _ a1)
            rw [← Nat.add_assoc] at c1
            obtain ⟨a, ha⟩ : ∃ a, M.calls.getD q (0, false) = a := ⟨_, rfl⟩
            have HA := Lib.hid ha
            rw [ha] at c0 c1
            obtain ⟨s, tu⟩ := a
            dsimp only at c0 c1
            have j0 : (0 : Int) ≤ (q : Int) := by omega
            have j1 : (q : Int) < (M.calls.length : Int) := by omega
            have hbr : bc < wr.heap.size := by have := hBr.size; omega
            have badv : ¬ (0 ≤ s ∧ s < (n : Int)) → false = v := fun hn => by
              rw [← HV2.out]; symm; rw [Bool.and_eq_false_iff]; left
              rw [List.all_eq_false]
              refine ⟨(s, tu), ?_, by simpa using hn⟩
              rw [← HA.out, List.getD_eq_getElem?_getD, List.getElem?_eq_getElem hlt, Option.getD_some]
              exact List.getElem_mem hlt
            have BADV := Lib.hid badv; clear badv
            have HBR := Lib.hid hBr
            clear hR hcell a0 a1 ha hds
            by_cases h0 : s < 0
            · have hd0 : decide (s < 0) = true := by simpa using h0
              obtain rfl := BADV.out (by omega)
              go_wp2_with fail
              go_ret
              exact ⟨rfl, by go_grown⟩
            have hd0 : decide (s < 0) = false := by simpa using h0
            by_cases h1 : (n : Int) ≤ s
            · have hd1 : decide ((n : Int) ≤ s) = true := by simpa using h1
              obtain rfl := BADV.out (by omega)
              go_wp2_with fail
              go_ret
              exact ⟨rfl, by go_grown⟩
            have hd1 : decide ((n : Int) ≤ s) = false := by simpa using h1
            clear BADV
            go_wp2_with fail
            exact ⟨⟨q + 1, by omega, by go_num, fun k hk => (Nat.lt_succ_iff_lt_or_eq.1 hk).elim (HZ.out k) (fun e => by subst e; rw [HA.out]; exact ⟨by omega, by omega⟩), by have h2 := HBR.out.size; have h3 := HBR.out; exact (by go_grown)⟩, by simp [intOf]; omega⟩
          · obtain rfl : q = M.calls.length := by omega
            have hall : M.calls.all (fun a => decide (0 ≤ a.1 ∧ a.1 < (n : Int))) = true := by
              rw [List.all_eq_true]
              intro a ha
              obtain ⟨k, hk⟩ := List.mem_iff_getElem?.1 ha
              have hk2 := (List.getElem?_eq_some_iff.1 hk).1
              have := HZ.out k hk2
              rw [List.getD_eq_getElem?_getD, hk] at this
              simpa using this
            have hv3 := HV2.out
            rw [hall, Bool.true_and] at hv3
            have HV3 := Lib.hid hv3; clear hv3 hall HV2 HZ
            have HR := Lib.hid (HM2.out.next hBr)
            have hbl := HR.out.lt
            have e20 := HR.out.c20; have e21 := HR.out.c21; have e22 := HR.out.c22; have e23 := HR.out.c23; have e24 := HR.out.c24
            go_wp2_with fail
            cases q0 : decide ((M.calls.length : Int) ≤ 100) with
            | false =>
              obtain rfl : false = v := by rw [← HV3.out]; symm; rw [decide_eq_false_iff_not]; simp at q0; omega
              go_quiet (fail)
              go_wp2_with fail; go_ret; exact ⟨rfl, by repeat' (first | (with_reducible assumption) | (with_reducible exact Below.refl _ _) | (with_reducible refine Below.alloc ?_ ?_ _) | (with_reducible refine Bk.drewN_ ?_ _) | (with_reducible refine Below.drew ?_) | (with_reducible refine Below.setCell ?_ ?_ _) | go_size)⟩
            | true =>
            cases q1 : decide ((M.inp.length : Int) ≤ 4096) with
            | false =>
              obtain rfl : false = v := by rw [← HV3.out]; symm; rw [decide_eq_false_iff_not]; simp at q1; omega
              go_quiet (fail)
              go_wp2_with fail; go_ret; exact ⟨rfl, by repeat' (first | (with_reducible assumption) | (with_reducible exact Below.refl _ _) | (with_reducible refine Below.alloc ?_ ?_ _) | (with_reducible refine Bk.drewN_ ?_ _) | (with_reducible refine Below.drew ?_) | (with_reducible refine Below.setCell ?_ ?_ _) | go_size)⟩
            | true =>
            cases q2 : decide ((M.out.length : Int) ≤ 4096) with
            | false =>
              obtain rfl : false = v := by rw [← HV3.out]; symm; rw [decide_eq_false_iff_not]; simp at q2; omega
              go_quiet (fail)
              go_wp2_with fail; go_ret; exact ⟨rfl, by repeat' (first | (with_reducible assumption) | (with_reducible exact Below.refl _ _) | (with_reducible refine Below.alloc ?_ ?_ _) | (with_reducible refine Bk.drewN_ ?_ _) | (with_reducible refine Below.drew ?_) | (with_reducible refine Below.setCell ?_ ?_ _) | go_size)⟩
            | true =>
            cases q3 : decide (0 ≤ M.fp) with
            | false =>
              obtain rfl : false = v := by rw [← HV3.out]; symm; rw [decide_eq_false_iff_not]; simp at q3; omega
              go_quiet (fail)
              go_wp2_with fail; go_ret; exact ⟨rfl, by repeat' (first | (with_reducible assumption) | (with_reducible exact Below.refl _ _) | (with_reducible refine Below.alloc ?_ ?_ _) | (with_reducible refine Bk.drewN_ ?_ _) | (with_reducible refine Below.drew ?_) | (with_reducible refine Below.setCell ?_ ?_ _) | go_size)⟩
            | true =>
            cases q4 : decide (M.fp ≤ im.mem) with
            | false =>
              obtain rfl : false = v := by rw [← HV3.out]; symm; rw [decide_eq_false_iff_not]; simp at q4; omega
              go_quiet (fail)
              go_wp2_with fail; go_ret; exact ⟨rfl, by repeat' (first | (with_reducible assumption) | (with_reducible exact Below.refl _ _) | (with_reducible refine Below.alloc ?_ ?_ _) | (with_reducible refine Bk.drewN_ ?_ _) | (with_reducible refine Below.drew ?_) | (with_reducible refine Below.setCell ?_ ?_ _) | go_size)⟩
            | true =>
            cases q5 : decide (0 ≤ M.sb) with
            | false =>
              obtain rfl : false = v := by rw [← HV3.out]; symm; rw [decide_eq_false_iff_not]; simp at q5; omega
              go_quiet (fail)
              go_wp2_with fail; go_ret; exact ⟨rfl, by repeat' (first | (with_reducible assumption) | (with_reducible exact Below.refl _ _) | (with_reducible refine Below.alloc ?_ ?_ _) | (with_reducible refine Bk.drewN_ ?_ _) | (with_reducible refine Below.drew ?_) | (with_reducible refine Below.setCell ?_ ?_ _) | go_size)⟩
            | true =>
            cases q6 : decide (M.sb ≤ im.stacks) with
            | false =>
              obtain rfl : false = v := by rw [← HV3.out]; symm; rw [decide_eq_false_iff_not]; simp at q6; omega
              go_quiet (fail)
              go_wp2_with fail; go_ret; exact ⟨rfl, by repeat' (first | (with_reducible assumption) | (with_reducible exact Below.refl _ _) | (with_reducible refine Below.alloc ?_ ?_ _) | (with_reducible refine Bk.drewN_ ?_ _) | (with_reducible refine Below.drew ?_) | (with_reducible refine Below.setCell ?_ ?_ _) | go_size)⟩
            | true =>
            obtain rfl : true = v := by rw [← HV3.out]; symm; rw [decide_eq_true_eq]; simp at q0 q1 q2 q3 q4 q5 q6; omega
            go_quiet (fail)
            go_wp2_with fail; go_ret; exact ⟨rfl, by repeat' (first | (with_reducible assumption) | (with_reducible exact Below.refl _ _) | (with_reducible refine Below.alloc ?_ ?_ _) | (with_reducible refine Bk.drewN_ ?_ _) | (with_reducible refine Below.drew ?_) | (with_reducible refine Below.setCell ?_ ?_ _) | go_size)⟩
theorem fg_rest1 {w : World} {D : Nat → Prop} {b off : Nat} {M : Mach} {vm vs vc vi vo : Value} {sv : List Value} (h : MRd w D b off M vm vs vc vi vo sv) (A : Option Addr) (n cap : Nat) (im : Img) (hd : M.dir = 1 ∨ M.dir = -1) (t0 : decide (M.pc < 0) = false) (t1 : decide ((n : Int) < M.pc) = false) (u0 : ((M.m.length : Int) != im.mem) = false) (u1 : ((M.s.length : Int) != im.stacks) = false) (u2 : decide ((M.s.length : Int) < 1) = false) (m : Nat) (hm : M.s.length = m + 1) (hm6 : m ≤ 1000000) (hcl6 : M.calls.length ≤ 17592186044400) (hn6 : n ≤ 65536) (hcap : ∀ A n cap, vs = .slice A n cap → cap = 1) {v : Bool} (hv : ((M.s.drop 1).all (fun l => decide (l.length ≤ 1000)) && (M.calls.all (fun a => decide (0 ≤ a.1 ∧ a.1 < (n : Int))) && decide (M.calls.length ≤ 100 ∧ M.inp.length ≤ 4096 ∧ M.out.length ≤ 4096 ∧ 0 ≤ M.fp ∧ M.fp ≤ im.mem ∧ 0 ≤ M.sb ∧ M.sb ≤ im.stacks))) = v) :
    Calls Tryz.prog 53 #[.agg #[.slice A n cap, .int .i64 im.mem, .int .i64 im.stacks], .pointer (some ⟨b, off, none⟩)] w fun e w' => e = .returned (.bool v) ∧ Below w.heap.size w w' := by
  rcases hd with hd | hd
  all_goals
    have hv' := hv
    have HV := Lib.hid hv
    obtain ⟨Av, cv, hvs, hcv, _, hRs⟩ := h.s
    obtain ⟨bs, os, rfl, hds, hcell⟩ := hRs.2 (by omega)
    obtain rfl : cv = 1 := hcap _ _ _ hvs
    subst hvs
    have hbs : bs < w.heap.size := h.d _ hds
    have HCELL := Lib.hid hcell
    have hmc : m + 1 ≤ 1 := by omega
    clear hcell hv hv' hRs hds hcap hcv
    have t3 : decide ((m : Int) + 1 < 1) = false := by simp; omega
    have t4 : ((m : Int) + 1 != im.stacks) = false := by have := u1; simp at this ⊢; omega
    have HMM := Lib.hid hm
    obtain ⟨Am, cm, rfl, _⟩ := h.m; obtain ⟨Ac, cc, rfl, _⟩ := h.lc; obtain ⟨Ai, ci, rfl, _⟩ := h.li; obtain ⟨Ao, co, rfl, _⟩ := h.lo; have HM0 := Lib.hid h; clear h; go_enter Tryz.func53, Tryz.ntmps53; go_upto_region 1 with fail; refine wp_nameY ?_; intro w1 hw1; have hB_w1 : Below w.heap.size w w1 := (by rw [hw1]; exact (by go_grown)); have K_1 : Blk w1 w.heap.size 82 #[.slice A n cap, .int .i64 im.mem, .int .i64 im.stacks] := (by rw [hw1]; exact (by repeat' (first | assumption | exact Blk.new' (by simp) _ _ | apply Blk.alloc | apply Blk.drew))); have HM := Lib.hid (HM0.out.next hB_w1); clear hw1; obtain ⟨z_1, T_1, F_1⟩ := K_1.open_; have H_1 := Lib.hid K_1; clear K_1; have hbl := HM.out.lt; have e0 := HM.out.c0; have e1 := HM.out.c1; have e18 := HM.out.c18; have e19 := HM.out.c19
    rw [hm] at e19
    clear hm u1 u2
    obtain rfl : m = 0 := by omega
    clear hmc t3
    have t4 : ((1 : Int) != im.stacks) = false := by simpa using t4
    simp only [Nat.zero_add] at e19
    go_wp2_with fail
    go_quiet (fail)
    go_wp2_with fail
    go_quiet (fail)
    go_wp2_with fail
    refine wp_nameY ?_
    intro w2 hw2
    have hB2 : Below w1.heap.size w1 w2 := by rw [hw2]; exact (by repeat' (first | (with_reducible assumption) | (with_reducible exact Below.refl _ _) | (with_reducible refine Below.alloc ?_ ?_ _) | (with_reducible refine Bk.drewN_ ?_ _) | (with_reducible refine Below.drew ?_) | (with_reducible refine Below.setCell ?_ ?_ _) | go_size))
    have hB_w2 := hB_w1.next hB2
    have KI := H_1.out.next hB2
    have HM2 := Lib.hid (HM.out.next hB2)
    clear hw2 e0 e1 e18 e19 T_1 z_1 F_1 HM
    obtain ⟨z_1, T_1, F_1⟩ := KI.open_
    have KIh := Lib.hid KI
    clear KI
    go_loopw [70] (fun v70 wr => ∃ j : Nat, j ≤ 0 ∧ v70 = .int .i64 j ∧ (∀ k, k < j → (M.s.getD (k + 1) []).length ≤ 1000) ∧ w2 = wr) (fun v _ => 0 - (intOf v).toNat)
    case atStart => exact ⟨0, Nat.zero_le _, rfl, fun k hk => absurd hk (Nat.not_lt_zero _), rfl⟩
    case round =>
      obtain ⟨j, hj, rfl, hz, rfl⟩ := hrel
      have HZ := Lib.hid hz; clear hz
      by_cases hlt : j < 0
      · omega
      · obtain rfl : j = 0 := by omega
        have hall : (M.s.drop 1).all (fun l => decide (l.length ≤ 1000)) = true := by
          rw [List.all_eq_true]
          intro l hl
          obtain ⟨k, hk⟩ := List.mem_iff_getElem?.1 hl
          rw [List.getElem?_drop] at hk
          have hk2 := (List.getElem?_eq_some_iff.1 hk).1
          have := HZ.out k (by have := HMM.out; omega)
          rw [List.getD_eq_getElem?_getD, Nat.add_comm, hk] at this
          simpa using this
        have hv2 := HV.out
        rw [hall, Bool.true_and] at hv2
        have HV2 := Lib.hid hv2; clear hv2 hall HV HZ HCELL
        have e20 := HM2.out.c20
        go_wp2_with fail
        clear T_1 F_1
        go_loopw [83] (fun v83 wr => ∃ q : Nat, q ≤ M.calls.length ∧ v83 = .int .i64 q ∧ (∀ k, k < q → 0 ≤ (M.calls.getD k (0, false)).1 ∧ (M.calls.getD k (0, false)).1 < (n : Int)) ∧ Below w2.heap.size w2 wr) (fun v _ => M.calls.length - (intOf v).toNat)
        case atStart => exact ⟨0, Nat.zero_le _, rfl, fun k hk => absurd hk (Nat.not_lt_zero _), Below.refl _ _⟩
        case round =>
          obtain ⟨q, hq, rfl, hz, hBr⟩ := hrel
          have HZ := Lib.hid hz; clear hz
          have hB_wr := hB_w2.next hBr
          have KR := KIh.out.next hBr
          obtain ⟨zI, TI, FI⟩ := KR.open_
          have HKR := Lib.hid KR
          clear KR
          clear e20
          by_cases hlt : q < M.calls.length
          · obtain ⟨_, _, ev, _, _, hR⟩ := HM2.out.lc
            injection ev with ev _ evc
            subst ev; subst evc
            obtain ⟨bc, oc, rfl, hds, hcell⟩ := hR.2 (by omega)
            have hbc := HM2.out.d _ hds
            obtain ⟨a0, a1⟩ := actCells_get M.calls q hlt
            have c0 := (hBr.cell (p := ⟨bc, oc + q * 2, none⟩) hbc).trans (hcell _ _ a0)
            have c1 := (hBr.cell (p := ⟨bc, oc + (q * 2 + 1), none⟩) hbc).trans (hcell _ _ a1)
            rw [← Nat.add_assoc] at c1
            obtain ⟨a, ha⟩ : ∃ a, M.calls.getD q (0, false) = a := ⟨_, rfl⟩
            have HA := Lib.hid ha
            rw [ha] at c0 c1
            obtain ⟨s, tu⟩ := a
            dsimp only at c0 c1
            have j0 : (0 : Int) ≤ (q : Int) := by omega
            have j1 : (q : Int) < (M.calls.length : Int) := by omega
            have hbr : bc < wr.heap.size := by have := hBr.size; omega
            have badv : ¬ (0 ≤ s ∧ s < (n : Int)) → false = v := fun hn => by
              rw [← HV2.out]; symm; rw [Bool.and_eq_false_iff]; left
              rw [List.all_eq_false]
              refine ⟨(s, tu), ?_, by simpa using hn⟩
              rw [← HA.out, List.getD_eq_getElem?_getD, List.getElem?_eq_getElem hlt, Option.getD_some]
              exact List.getElem_mem hlt
            have BADV := Lib.hid badv; clear badv
            have HBR := Lib.hid hBr
            clear hR hcell a0 a1 ha hds
            by_cases h0 : s < 0
            · have hd0 : decide (s < 0) = true := by simpa using h0
              obtain rfl := BADV.out (by omega)
              go_wp2_with fail
              go_ret
              exact ⟨rfl, by go_grown⟩
            have hd0 : decide (s < 0) = false := by simpa using h0
            by_cases h1 : (n : Int) ≤ s
            · have hd1 : decide ((n : Int) ≤ s) = true := by simpa using h1
              obtain rfl := BADV.out (by omega)
              go_wp2_with fail
              go_ret
              exact ⟨rfl, by go_grown⟩
            have hd1 : decide ((n : Int) ≤ s) = false := by simpa using h1
            clear BADV
            go_wp2_with fail
            exact ⟨⟨q + 1, by omega, by go_num, fun k hk => (Nat.lt_succ_iff_lt_or_eq.1 hk).elim (HZ.out k) (fun e => by subst e; rw [HA.out]; exact ⟨by omega, by omega⟩), by have h2 := HBR.out.size; have h3 := HBR.out; exact (by go_grown)⟩, by simp [intOf]; omega⟩
          · obtain rfl : q = M.calls.length := by omega
            have hall : M.calls.all (fun a => decide (0 ≤ a.1 ∧ a.1 < (n : Int))) = true := by
              rw [List.all_eq_true]
              intro a ha
              obtain ⟨k, hk⟩ := List.mem_iff_getElem?.1 ha
              have hk2 := (List.getElem?_eq_some_iff.1 hk).1
              have := HZ.out k hk2
              rw [List.getD_eq_getElem?_getD, hk] at this
              simpa using this
            have hv3 := HV2.out
            rw [hall, Bool.true_and] at hv3
            have HV3 := Lib.hid hv3; clear hv3 hall HV2 HZ
            have HR := Lib.hid (HM2.out.next hBr)
            have hbl := HR.out.lt
            have e20 := HR.out.c20; have e21 := HR.out.c21; have e22 := HR.out.c22; have e23 := HR.out.c23; have e24 := HR.out.c24
            go_wp2_with fail
            cases q0 : decide ((M.calls.length : Int) ≤ 100) with
            | false =>
              obtain rfl : false = v := by rw [← HV3.out]; symm; rw [decide_eq_false_iff_not]; simp at q0; omega
              go_quiet (fail)
              go_wp2_with fail; go_ret; exact ⟨rfl, by repeat' (first | (with_reducible assumption) | (with_reducible exact Below.refl _ _) | (with_reducible refine Below.alloc ?_ ?_ _) | (with_reducible refine Bk.drewN_ ?_ _) | (with_reducible refine Below.drew ?_) | (with_reducible refine Below.setCell ?_ ?_ _) | go_size)⟩
            | true =>
            cases q1 : decide ((M.inp.length : Int) ≤ 4096) with
            | false =>
              obtain rfl : false = v := by rw [← HV3.out]; symm; rw [decide_eq_false_iff_not]; simp at q1; omega
              go_quiet (fail)
              go_wp2_with fail; go_ret; exact ⟨rfl, by repeat' (first | (with_reducible assumption) | (with_reducible exact Below.refl _ _) | (with_reducible refine Below.alloc ?_ ?_ _) | (with_reducible refine Bk.drewN_ ?_ _) | (with_reducible refine Below.drew ?_) | (with_reducible refine Below.setCell ?_ ?_ _) | go_size)⟩
            | true =>
            cases q2 : decide ((M.out.length : Int) ≤ 4096) with
            | false =>
              obtain rfl : false = v := by rw [← HV3.out]; symm; rw [decide_eq_false_iff_not]; simp at q2; omega
              go_quiet (fail)
              go_wp2_with fail; go_ret; exact ⟨rfl, by repeat' (first | (with_reducible assumption) | (with_reducible exact Below.refl _ _) | (with_reducible refine Below.alloc ?_ ?_ _) | (with_reducible refine Bk.drewN_ ?_ _) | (with_reducible refine Below.drew ?_) | (with_reducible refine Below.setCell ?_ ?_ _) | go_size)⟩
            | true =>
            cases q3 : decide (0 ≤ M.fp) with
            | false =>
              obtain rfl : false = v := by rw [← HV3.out]; symm; rw [decide_eq_false_iff_not]; simp at q3; omega
              go_quiet (fail)
              go_wp2_with fail; go_ret; exact ⟨rfl, by repeat' (first | (with_reducible assumption) | (with_reducible exact Below.refl _ _) | (with_reducible refine Below.alloc ?_ ?_ _) | (with_reducible refine Bk.drewN_ ?_ _) | (with_reducible refine Below.drew ?_) | (with_reducible refine Below.setCell ?_ ?_ _) | go_size)⟩
            | true =>
            cases q4 : decide (M.fp ≤ im.mem) with
            | false =>
              obtain rfl : false = v := by rw [← HV3.out]; symm; rw [decide_eq_false_iff_not]; simp at q4; omega
              go_quiet (fail)
              go_wp2_with fail; go_ret; exact ⟨rfl, by repeat' (first | (with_reducible assumption) | (with_reducible exact Below.refl _ _) | (with_reducible refine Below.alloc ?_ ?_ _) | (with_reducible refine Bk.drewN_ ?_ _) | (with_reducible refine Below.drew ?_) | (with_reducible refine Below.setCell ?_ ?_ _) | go_size)⟩
            | true =>
            cases q5 : decide (0 ≤ M.sb) with
            | false =>
              obtain rfl : false = v := by rw [← HV3.out]; symm; rw [decide_eq_false_iff_not]; simp at q5; omega
              go_quiet (fail)
              go_wp2_with fail; go_ret; exact ⟨rfl, by repeat' (first | (with_reducible assumption) | (with_reducible exact Below.refl _ _) | (with_reducible refine Below.alloc ?_ ?_ _) | (with_reducible refine Bk.drewN_ ?_ _) | (with_reducible refine Below.drew ?_) | (with_reducible refine Below.setCell ?_ ?_ _) | go_size)⟩
            | true =>
            cases q6 : decide (M.sb ≤ im.stacks) with
            | false =>
              obtain rfl : false = v := by rw [← HV3.out]; symm; rw [decide_eq_false_iff_not]; simp at q6; omega
              go_quiet (fail)
              go_wp2_with fail; go_ret; exact ⟨rfl, by repeat' (first | (with_reducible assumption) | (with_reducible exact Below.refl _ _) | (with_reducible refine Below.alloc ?_ ?_ _) | (with_reducible refine Bk.drewN_ ?_ _) | (with_reducible refine Below.drew ?_) | (with_reducible refine Below.setCell ?_ ?_ _) | go_size)⟩
            | true =>
            obtain rfl : true = v := by rw [← HV3.out]; symm; rw [decide_eq_true_eq]; simp at q0 q1 q2 q3 q4 q5 q6; omega
            go_quiet (fail)
            go_wp2_with fail; go_ret; exact ⟨rfl, by repeat' (first | (with_reducible assumption) | (with_reducible exact Below.refl _ _) | (with_reducible refine Below.alloc ?_ ?_ _) | (with_reducible refine Bk.drewN_ ?_ _) | (with_reducible refine Below.drew ?_) | (with_reducible refine Below.setCell ?_ ?_ _) | go_size)⟩
end Go.Proofs.YtbijhlgdilkopaaGreatDoor
