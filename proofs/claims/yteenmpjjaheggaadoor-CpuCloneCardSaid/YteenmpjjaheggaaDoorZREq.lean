/- The reference's Equal on two values of one machine: true. -/
import Derived.Test.YteenmpjjaheggaaDoorCpX
set_option linter.unusedVariables false
set_option linter.unusedSimpArgs false
set_option maxRecDepth 100000
set_option maxHeartbeats 8000000
namespace Bk
open Go Go.RowKit
theorem Sl.upD {w w' : World} {D : Nat → Prop} {sz n : Nat} {v : Value} {xs : List Value} (h : Sl w D sz v n xs) (hd : ∀ k, D k → k < w.heap.size) (hb : Below w.heap.size w w') : Sl w' D sz v n xs :=
  h.keep (fun b o hk => hb.cell (p := ⟨b, o, none⟩) (hd _ hk)) fun _ h => h
end Bk
namespace Go.Proofs.YteenmpjjaheggaaDoor
open Go.RowKit Bk
theorem c_rintsT {w : World} {D D' : Nat → Prop} {v v' : Value} {l : List Int} (h : Sl w D 1 v l.length (intCells l)) (h' : Sl w D' 1 v' l.length (intCells l)) (hD : ∀ k, D k → k < w.heap.size) (hD' : ∀ k, D' k → k < w.heap.size) (hmax : l.length ≤ 20000000000000) :
    Calls Tryd.prog 39 #[v, v'] w fun e w' => e = .returned (.bool true) ∧ Below w.heap.size w w' := by
  obtain ⟨A, cap, rfl, _, _, hR⟩ := h
  obtain ⟨A', cap', rfl, _, _, hR'⟩ := h'
  have hnn : ((l.length : Int) != (l.length : Int)) = false := by simp
  obtain ⟨n, hn⟩ : ∃ n, l.length = n := ⟨_, rfl⟩
  rw [hn] at hnn hmax hR hR' ⊢
  have HR := Lib.hid hR; have HR' := Lib.hid hR'; have HN := Lib.hid hn
  clear hR hR' hn
  go_enter Tryd.func39, Tryd.ntmps39
  go_wp2_with fail
  go_loopw [5] (fun v5 wr => ∃ j : Nat, j ≤ n ∧ v5 = .int .i64 j ∧ Below w.heap.size w wr) (fun v _ => n - (intOf v).toNat)
  case atStart => exact ⟨0, Nat.zero_le _, rfl, by go_grown⟩
  case round =>
    obtain ⟨j, hj, rfl, hB⟩ := hrel
    by_cases hlt : j < n
    · obtain ⟨b, o, rfl, hd, hc⟩ := HR.out.2 (by omega)
      obtain ⟨b', o', rfl, hd', hc'⟩ := HR'.out.2 (by omega)
      have hg := intCells_get l j (by rw [HN.out]; exact hlt)
      have c0 := (hB.cell (p := ⟨b, o + j, none⟩) (hD _ hd)).trans (hc j _ hg)
      have c1 := (hB.cell (p := ⟨b', o' + j, none⟩) (hD' _ hd')).trans (hc' j _ hg)
      have j0 : (0 : Int) ≤ (j : Int) := by omega
      have j1 : (j : Int) < (n : Int) := by omega
      generalize l.getD j 0 = x at *
      clear hc hc' hg
      go_wp2_with fail
      go_quiet (fail)
      go_wp2_with fail
      exact ⟨⟨j + 1, by omega, by go_num, by repeat' (first | (with_reducible assumption) | (with_reducible exact Below.refl _ _) | (with_reducible refine Below.alloc ?_ ?_ _) | (with_reducible refine Bk.drewN_ ?_ _) | (with_reducible refine Below.drew ?_) | (with_reducible refine Below.setCell ?_ ?_ _) | go_size)⟩, by simp [intOf]; omega⟩
    · obtain rfl : j = n := by omega
      go_wp2_with fail
      go_ret
      exact ⟨rfl, hB⟩
theorem neq_actT (W : World) (s : Int) (t : Bool) : (binOp .neq 39 (.agg #[.int .i64 s, .bool t]) (.agg #[.int .i64 s, .bool t])).run Tryd.prog W = .ok (.bool false) W := by
  rw [neq_act]; simp
theorem c_REqT {w : World} {D D' : Nat → Prop} {M : Mach} {vm vs vc vi vo vm' vs' vc' vi' vo' : Value} {sv sv' : List Value} (h : MLs w D M vm vs vc vi vo sv) (h' : MLs w D' M vm' vs' vc' vi' vo' sv') (hB : MBd M) :
    Calls Tryd.prog 11 #[.agg (mcells M vm vs vc vi vo).toArray, .agg (mcells M vm' vs' vc' vi' vo').toArray] w fun e w' => e = .returned (.bool true) ∧ Below w.heap.size w w' := by
  obtain ⟨Av, cv, rfl, _⟩ := h.s; obtain ⟨Ac, cc, rfl, _⟩ := h.l.2.1
  obtain ⟨Av', cv', rfl, _⟩ := h'.s; obtain ⟨Ac', cc', rfl, _⟩ := h'.l.2.1
  have HL := Lib.hid h; have HL' := Lib.hid h'; have HB := Lib.hid hB
  have hrl := h.rl
  have hRR : ∀ W : World, (binOp .neq 22 (.agg (intCells M.r).toArray) (.agg (intCells M.r).toArray)).run Tryd.prog W = .ok (.bool false) W := fun W => by
    rw [ne_regs hrl hrl]; simp
  have b1 : M.m.length ≤ 20000000000000 := by have := HB.out.ml; omega
  have b3 : ∀ l ∈ M.s, l.length ≤ 20000000000000 := fun l hl => by have := HB.out.st l hl; omega
  have b5 : M.inp.length ≤ 20000000000000 := by have := HB.out.il; omega
  have b6 : M.out.length ≤ 20000000000000 := by have := HB.out.ol; omega
  have B1 := Lib.hid b1; have B3 := Lib.hid b3; have B5 := Lib.hid b5; have B6 := Lib.hid b6
  have t1 : ((M.s.length : Int) != (M.s.length : Int)) = false := by simp
  have t2 : ((M.calls.length : Int) != (M.calls.length : Int)) = false := by simp
  clear h h' hB b1 b3 b5 b6 hrl
  go_enter Tryd.func11, Tryd.ntmps11
  go_upto_region 1 with fail
  refine wp_nameY ?_
  intro w1 hw1
  have hB_w1 : Below w.heap.size w w1 := by rw [hw1]; exact (by go_grown)
  have K1 : Blk w1 w.heap.size 27 (mcells M vm (.slice Av M.s.length cv) (.slice Ac M.calls.length cc) vi vo).toArray := by rw [hw1]; exact (by repeat' (first | assumption | exact Blk.new' (by simp) _ _ | apply Blk.alloc | apply Blk.drew))
  have K2 : Blk w1 (w.heap.size + 1) 27 (mcells M vm' (.slice Av' M.s.length cv') (.slice Ac' M.calls.length cc') vi' vo').toArray := by rw [hw1]; exact (by repeat' (first | assumption | exact Blk.new' (by simp) _ _ | apply Blk.alloc | apply Blk.drew))
  have HM := Lib.hid ((HL.out.next hB_w1).at_ K1); have HM' := Lib.hid ((HL'.out.next hB_w1).at_ K2)
  clear hw1 K1 K2
  have g0 := HM.out.c0; have i0 := HM'.out.c0; have g1 := HM.out.c1; have i1 := HM'.out.c1; have g18 := HM.out.c18; have i18 := HM'.out.c18; have g19 := HM.out.c19; have i19 := HM'.out.c19; have g20 := HM.out.c20; have i20 := HM'.out.c20; have g21 := HM.out.c21; have i21 := HM'.out.c21; have g22 := HM.out.c22; have i22 := HM'.out.c22; have g23 := HM.out.c23; have i23 := HM'.out.c23; have g24 := HM.out.c24; have i24 := HM'.out.c24; simp only [Nat.zero_add] at g0 i0 g1 i1 g18 i18 g19 i19 g20 i20 g21 i21 g22 i22 g23 i23 g24 i24
  go_step
  simp only [List.append_eq, List.cons_append, List.nil_append]
  go_wp2_with (first | (refine wpList_loadG 22 rfl rfl rfl (load_regs HM.out) ?_; simp only [Act.put, Bk.PU]) | (refine wpList_loadG 22 rfl rfl rfl (load_regs HM'.out) ?_; simp only [Act.put, Bk.PU]))
  refine (c_rintsT HM.out.m HM'.out.m HM.out.d HM'.out.d B1.out).mono ?_
  rintro e w2 ⟨rfl, hb2⟩
  have hB_w2 := hB_w1.next hb2
  replace HM := Lib.hid (HM.out.next hb2); replace HM' := Lib.hid (HM'.out.next hb2)
  clear g0 i0 g1 i1 g18 i18 g19 i19 g20 i20 g21 i21 g22 i22 g23 i23 g24 i24
  clear hb2
  have g0 := HM.out.c0; have i0 := HM'.out.c0; have g1 := HM.out.c1; have i1 := HM'.out.c1; have g18 := HM.out.c18; have i18 := HM'.out.c18; have g19 := HM.out.c19; have i19 := HM'.out.c19; have g20 := HM.out.c20; have i20 := HM'.out.c20; have g21 := HM.out.c21; have i21 := HM'.out.c21; have g22 := HM.out.c22; have i22 := HM'.out.c22; have g23 := HM.out.c23; have i23 := HM'.out.c23; have g24 := HM.out.c24; have i24 := HM'.out.c24; simp only [Nat.zero_add] at g0 i0 g1 i1 g18 i18 g19 i19 g20 i20 g21 i21 g22 i22 g23 i23 g24 i24
  go_wp2_with fail
  refine (c_rintsT HM.out.li HM'.out.li HM.out.d HM'.out.d B5.out).mono ?_
  rintro e w3 ⟨rfl, hb3⟩
  have hB_w3 := hB_w2.next hb3
  replace HM := Lib.hid (HM.out.next hb3); replace HM' := Lib.hid (HM'.out.next hb3)
  clear g0 i0 g1 i1 g18 i18 g19 i19 g20 i20 g21 i21 g22 i22 g23 i23 g24 i24
  clear hb3
  have g0 := HM.out.c0; have i0 := HM'.out.c0; have g1 := HM.out.c1; have i1 := HM'.out.c1; have g18 := HM.out.c18; have i18 := HM'.out.c18; have g19 := HM.out.c19; have i19 := HM'.out.c19; have g20 := HM.out.c20; have i20 := HM'.out.c20; have g21 := HM.out.c21; have i21 := HM'.out.c21; have g22 := HM.out.c22; have i22 := HM'.out.c22; have g23 := HM.out.c23; have i23 := HM'.out.c23; have g24 := HM.out.c24; have i24 := HM'.out.c24; simp only [Nat.zero_add] at g0 i0 g1 i1 g18 i18 g19 i19 g20 i20 g21 i21 g22 i22 g23 i23 g24 i24
  go_wp2_with fail
  refine (c_rintsT HM.out.lo HM'.out.lo HM.out.d HM'.out.d B6.out).mono ?_
  rintro e w4 ⟨rfl, hb4⟩
  have hB_w4 := hB_w3.next hb4
  replace HM := Lib.hid (HM.out.next hb4); replace HM' := Lib.hid (HM'.out.next hb4)
  clear g0 i0 g1 i1 g18 i18 g19 i19 g20 i20 g21 i21 g22 i22 g23 i23 g24 i24
  clear hb4
  have g0 := HM.out.c0; have i0 := HM'.out.c0; have g1 := HM.out.c1; have i1 := HM'.out.c1; have g18 := HM.out.c18; have i18 := HM'.out.c18; have g19 := HM.out.c19; have i19 := HM'.out.c19; have g20 := HM.out.c20; have i20 := HM'.out.c20; have g21 := HM.out.c21; have i21 := HM'.out.c21; have g22 := HM.out.c22; have i22 := HM'.out.c22; have g23 := HM.out.c23; have i23 := HM'.out.c23; have g24 := HM.out.c24; have i24 := HM'.out.c24; simp only [Nat.zero_add] at g0 i0 g1 i1 g18 i18 g19 i19 g20 i20 g21 i21 g22 i22 g23 i23 g24 i24
  go_wp2_with fail
  have hms : M.s.length ≤ 16384 := HB.out.sl
  have hcs : M.calls.length ≤ 100 := HB.out.cl
  clear g0 i0 g1 i1 g18 i18 g19 i19 g20 i20 g21 i21 g22 i22 g23 i23 g24 i24
  have HM4 := Lib.hid HM.out; have HM4' := Lib.hid HM'.out
  go_loopw [5] (fun v5 wr => ∃ j : Nat, j ≤ M.s.length ∧ v5 = .int .i64 j ∧ Below w4.heap.size w4 wr) (fun v _ => M.s.length - (intOf v).toNat)
  case atStart => exact ⟨0, Nat.zero_le _, rfl, Below.refl _ _⟩
  case round =>
    obtain ⟨j, hj, rfl, hBr⟩ := hrel
    have HR := Lib.hid (HM4.out.next hBr); have HR' := Lib.hid (HM4'.out.next hBr)
    have hB_wr := hB_w4.next hBr
    have g19 := HR.out.c19; have i19 := HR'.out.c19
    simp only [Nat.zero_add] at g19 i19
    by_cases hlt : j < M.s.length
    · obtain ⟨_, _, ev, _, _, hR⟩ := HR.out.s
      injection ev with ev _ evc
      subst ev; subst evc
      obtain ⟨bs, os, rfl, hds, hcell⟩ := hR.2 (by omega)
      obtain ⟨u, hu, hsl⟩ := HR.out.l.1.2 j hlt
      have ec := hcell j _ hu
      obtain ⟨_, _, ev, _, _, hR'⟩ := HR'.out.s
      injection ev with ev _ evc
      subst ev; subst evc
      obtain ⟨bs', os', rfl, hds', hcell'⟩ := hR'.2 (by omega)
      obtain ⟨u', hu', hsl'⟩ := HR'.out.l.1.2 j hlt
      have ec' := hcell' j _ hu'
      have hbs := HR.out.d _ hds; have hbs' := HR'.out.d _ hds'
      have hle : (M.s.getD j []).length ≤ 20000000000000 := B3.out _ (getD_mem hlt)
      have HLE := Lib.hid hle
      have HS1 := Lib.hid hsl; have HS2 := Lib.hid hsl'
      obtain ⟨A1, c1, rfl, _⟩ := hsl
      obtain ⟨A2, c2, rfl, _⟩ := hsl'
      have j0 : (0 : Int) ≤ (j : Int) := by omega
      have j1 : (j : Int) < (M.s.length : Int) := by omega
      clear hR hR' hcell hcell' hu hu' hds hds' hle
      generalize M.s.getD j [] = lj at *
      have EC := Lib.hid ec; have EC' := Lib.hid ec'
      clear ec ec'
      go_wp2_with fail
      clear g19 i19
      refine wp_region_grow (by kernel_rfl) (by kernel_rfl) ?_; intro W hW; have hneW : Nonempty (Grw W) := ⟨⟨W, Below.refl _ _⟩⟩; have HBz := Lib.hid (fun z => Below.next (show Below w.heap.size w W by (rw [hW]; exact (by go_grown))) (grow_below W z))
      have g19 := fun z => (HR.out.next (w' := grow W z) (by rw [← hW]; exact grow_below W z)).c19
      have i19 := fun z => (HR'.out.next (w' := grow W z) (by rw [← hW]; exact grow_below W z)).c19
      simp only [Nat.zero_add] at g19 i19
      have ez := cell_grow hW hbs EC.out
      have ez' := cell_grow hW hbs' EC'.out
      have HW := Lib.hid hW; clear hW
      repeat (go_big_quiet_step ((go_at_call 39; with_reducible exact quiet_grow (c_rintsT (HS1.out.upD HR.out.d (by rw [← HW.out]; exact grow_below _ _)) (HS2.out.upD HR'.out.d (by rw [← HW.out]; exact grow_below _ _)) (fun k hk => Nat.lt_of_lt_of_le (HR.out.d k hk) (by rw [← HW.out]; exact (grow_below _ _).size)) (fun k hk => Nat.lt_of_lt_of_le (HR'.out.d k hk) (by rw [← HW.out]; exact (grow_below _ _).size)) HLE.out))))
      clear g19 i19 ez ez'
      refine wpQuiet_nil ?_
      rintro _ ⟨z, rfl⟩
      have hb5 := grow_below W z
      generalize grow W z = w5 at hb5 ⊢
      rw [HW.out] at hb5
      clear HW HBz hneW
      go_wp2_with fail
      exact ⟨⟨j + 1, by omega, by go_num, hBr.next hb5⟩, by simp [intOf]; omega⟩
    · obtain rfl : j = M.s.length := by omega
      go_wp2_with fail
      clear g19 i19
      go_loopw [6] (fun v6 wq => ∃ q : Nat, q ≤ M.calls.length ∧ v6 = .int .i64 q ∧ Below wr.heap.size wr wq) (fun v _ => M.calls.length - (intOf v).toNat)
      case atStart => exact ⟨0, Nat.zero_le _, rfl, Below.refl _ _⟩
      case round =>
        obtain ⟨q, hq, rfl, hBq⟩ := hrel
        have HQ := Lib.hid (HR.out.next hBq); have HQ' := Lib.hid (HR'.out.next hBq)
        have hB_wq := hB_wr.next hBq
        have g20 := HQ.out.c20; have i20 := HQ'.out.c20
        simp only [Nat.zero_add] at g20 i20
        by_cases hlt : q < M.calls.length
        · obtain ⟨_, _, ev, _, _, hR⟩ := HQ.out.lc
          injection ev with ev _ evc
          subst ev; subst evc
          obtain ⟨bs, os, rfl, hds, hcell⟩ := hR.2 (by omega)
          obtain ⟨_, _, ev, _, _, hR'⟩ := HQ'.out.lc
          injection ev with ev _ evc
          subst ev; subst evc
          obtain ⟨bs', os', rfl, hds', hcell'⟩ := hR'.2 (by omega)
          obtain ⟨a0, a1⟩ := actCells_get M.calls q hlt
          have c0 := hcell _ _ a0; have c1 := hcell _ _ a1; have d0 := hcell' _ _ a0; have d1 := hcell' _ _ a1
          rw [← Nat.add_assoc] at c1 d1
          generalize M.calls.getD q (0, false) = a at *
          obtain ⟨s0, t0⟩ := a
          dsimp only at c0 c1 d0 d1
          have hneq := fun W => neq_actT W s0 t0
          have q0 : (0 : Int) ≤ (q : Int) := by omega
          have q1 : (q : Int) < (M.calls.length : Int) := by omega
          clear hR hR' hcell hcell' a0 a1 hds hds'
          go_wp2_with fail
          go_quiet (fail)
          go_wp2_with fail
          exact ⟨⟨q + 1, by omega, by go_num, by repeat' (first | (with_reducible assumption) | (with_reducible exact Below.refl _ _) | (with_reducible refine Below.alloc ?_ ?_ _) | (with_reducible refine Bk.drewN_ ?_ _) | (with_reducible refine Below.drew ?_) | (with_reducible refine Below.setCell ?_ ?_ _) | go_size)⟩, by simp [intOf]; omega⟩
        · obtain rfl : q = M.calls.length := by omega
          go_wp2_with fail
          go_ret
          exact ⟨rfl, hB_wq⟩
end Go.Proofs.YteenmpjjaheggaaDoor
