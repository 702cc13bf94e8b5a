/- The walk of the reference's Optimize. -/
import Derived.Test.YtfobnkgfbdmakaaDoorRemove
import Derived.Test.YtfobnkgfbdmakaaDoorGrow
import Derived.Outline
set_option linter.unusedVariables false
namespace Go.Proofs.YtfobnkgfbdmakaaDoor
open Go.RowKit Bk

theorem c_refCancels' (op a b c d op' a' b' c' d' : Int) {v : Bool} (h : refCancels ⟨op, a, b, c, d⟩ ⟨op', a', b', c', d'⟩ = v) (h0 : 0 ≤ op) (w : World) :
    Calls Tryd.prog 13 #[.agg #[.int .u8 op, .int .i64 a, .int .i64 b, .int .i64 c, .int .i64 d], .agg #[.int .u8 op', .int .i64 a', .int .i64 b', .int .i64 c', .int .i64 d']] w fun e w' =>
      e = .returned (.bool v) ∧ Below w.heap.size w w' := by
  rw [← h]; exact c_refCancels op a b c d op' a' b' c' d' h0 w

set_option maxRecDepth 100000 in
set_option maxHeartbeats 8000000 in
theorem c_refOpt (A : Option Addr) (n cap : Nat) (code : Prg) (w : World) (hmax : n ≤ 65536)
    (hC : Rd w (· < w.heap.size) 5 A n (codeCells code)) (hw : CodeWf code) :
    Calls Tryd.prog 19 #[.slice A n cap] w fun e w' =>
      ∃ A' m c', e = .returned (.slice A' m c') ∧ Rd w' (· < w'.heap.size) 5 A' m (codeCells (refOpt code)) ∧ Below w.heap.size w w' := by
  have hn : n = code.length := by have := hC.1; rw [codeCells_length] at this; omega
  have HN := Lib.hid hn; have HC := Lib.hid hC; have HW := Lib.hid hw
  clear hn hC hw
  go_enter Tryd.func19, Tryd.ntmps19
  go_wp2_with fail
  go_loopw [0, 3] (fun v0 v3 wr => ∃ (c : Prg) (j : Nat) (k : Int) (A : Option Addr) (n' cap : Nat), v0 = .slice A n' cap ∧ v3 = .int .i64 k ∧ (k < 0 → j = 0) ∧ (0 ≤ k → (j : Int) = k + 1) ∧ -2 ≤ k ∧ k ≤ n' ∧ n' ≤ 65536 ∧ Rd wr (· < wr.heap.size) 5 A n' (codeCells c) ∧ CodeWf c ∧ refLoop c j = refOpt code ∧ Below w.heap.size w wr)
    (fun v0 v3 _ => sliceLen v0 * 65540 + (intOf v3 + 2).toNat)
  case atStart => exact ⟨code, n - 1, (n : Int) - 2, A, n, cap, rfl, rfl, by omega, by omega, by omega, by omega, hmax, HC.out, HW.out, by rw [HN.out]; rfl, Below.refl _ _⟩
  case round =>
    obtain ⟨c, j, k, A, n', cap', rfl, rfl, hj0, hj1, hk2, hkn, hn', hC, hw, hR, hB⟩ := hrel
    have hBs := hB.size
    have hcn : n' = c.length := by have := hC.1; rw [codeCells_length] at this; omega
    by_cases hk : k < 0
    · have hj := hj0 hk
      subst hj
      rw [refLoop_zero] at hR
      subst hR
      have HC2 := Lib.hid hC
      clear hC hj0 hj1 hcn
      go_wp2_with fail
      go_ret
      exact ⟨_, _, _, rfl, HC2.out, hB⟩
    · obtain ⟨q, rfl⟩ := Int.eq_ofNat_of_zero_le (show 0 ≤ k by omega)
      have hj := hj1 (by omega)
      obtain rfl : j = q + 1 := by omega
      by_cases hq : q + 1 < n'
      · obtain ⟨b, off, rfl, hb, _⟩ := hC.2 (by omega)
        obtain ⟨x0, x1, x2, x3, x4⟩ := hC.insAt (k := q) (by omega)
        obtain ⟨y0, y1, y2, y3, y4⟩ := hC.insAt (k := q + 1) (by omega)
        have hx0 := hw.op0 q
        have hrem := refLoop_rem c q
        have hskp := refLoop_skip c q
        generalize hx : c.getD q default = x at *
        generalize hy : c.getD (q + 1) default = y at *
        obtain ⟨v, hv⟩ : ∃ v, refCancels x y = v := ⟨_, rfl⟩
        rw [hv] at hrem hskp
        have HV : Hid (refCancels ⟨x.op, x.a, x.b, x.c, x.d⟩ ⟨y.op, y.a, y.b, y.c, y.d⟩ = v) := Lib.hid hv
        have HC2 := Lib.hid hC
        have q1 : ((q : Int) + 1 < (n' : Int)) := by omega
        have q1b : decide ((q : Int) + 1 < (n' : Int)) = true := by simp; omega
        have q1c : decide (q + 1 < n') = true := by simp; omega
        have q2 : ¬ n' ≤ q := by omega
        have q3 : ¬ n' ≤ q + 1 := by omega
        have hbw : b < wr.heap.size := hb
        have HX := Lib.hid (And.intro x0 (And.intro x1 (And.intro x2 (And.intro x3 x4))))
        have HY := Lib.hid (And.intro y0 (And.intro y1 (And.intro y2 (And.intro y3 y4))))
        clear x0 x1 x2 x3 x4 y0 y1 y2 y3 y4
        cases v with
        | true =>
          have hstep := hrem ⟨by omega, rfl⟩
          rw [hstep] at hR
          have HR := Lib.hid hR; have HCN := Lib.hid hcn
          clear hC hj0 hj1 hj hrem hskp hx hy hv hR hstep hcn
          go_wp2_with fail
          refine wp_region_grow (by kernel_rfl) (by kernel_rfl) ?_; intro W hW; have hneW : Nonempty (Grw W) := ⟨⟨W, Below.refl _ _⟩⟩; have HBz := Lib.hid (fun z => Below.next (show Below w.heap.size w W by (rw [hW]; exact (by repeat' (first | (with_reducible assumption) | (with_reducible exact Below.refl _ _) | (with_reducible refine Below.alloc ?_ ?_ _) | (with_reducible refine Bk.drewN_ ?_ _) | (with_reducible refine Below.drew ?_) | (with_reducible refine Below.setCell ?_ ?_ _) | go_size)))) (grow_below W z))
          have k0 := cell_grow hW hbw HX.out.1; have k1 := cell_grow hW hbw HX.out.2.1; have k2 := cell_grow hW hbw HX.out.2.2.1; have k3 := cell_grow hW hbw HX.out.2.2.2.1; have k4 := cell_grow hW hbw HX.out.2.2.2.2; have k5 := cell_grow hW hbw HY.out.1; have k6 := cell_grow hW hbw HY.out.2.1; have k7 := cell_grow hW hbw HY.out.2.2.1; have k8 := cell_grow hW hbw HY.out.2.2.2.1; have k9 := cell_grow hW hbw HY.out.2.2.2.2; have HW := Lib.hid hW; clear hW
          repeat (go_big_quiet_step ((go_at_call 13; with_reducible exact quiet_grow (c_refCancels' _ _ _ _ _ _ _ _ _ _ HV.out hx0 _))))
          clear k0 k1 k2 k3 k4 k5 k6 k7 k8 k9
          refine wpQuiet_nil ?_; rintro _ ⟨z, rfl⟩; have hb1 := grow_below W z; have hB1 := HBz.out z; generalize grow W z = w1 at hb1 hB1 ⊢; have hW := HW.out; clear HW HBz hneW; subst hW; obtain ⟨hc1, hf1⟩ := bcell hb1; obtain ⟨hcA1, hfA1⟩ := bcell hB1; have HB1 := Lib.hid hb1; clear hb1
          have hR1 := HC2.out.next HB1.out
          have HR1 := Lib.hid hR1; clear hR1
          have hs1 := HB1.out.size
          clear hc1 hf1 hcA1 hfA1
          go_wp2_with fail
          refine (c_remove b off n' cap' q c _ (by omega) hn' (by omega) (by exact HR1.out) hw).mono ?_
          rintro e w2 ⟨v2, rfl, ho2, hb2⟩
          obtain ⟨A2, cap2, rfl⟩ := own_form ho2
          have hB2 : Below w.heap.size w w2 := Below.trans (by repeat' (first | (with_reducible assumption) | (with_reducible exact Below.refl _ _) | (with_reducible refine Below.alloc ?_ ?_ _) | (with_reducible refine Bk.drewN_ ?_ _) | (with_reducible refine Below.drew ?_) | (with_reducible refine Below.setCell ?_ ?_ _) | go_size)) (hb2.mono (by omega))
          have hlen := removeAt_length c q (by have := HCN.out; omega)
          have hrd := (Rd.of_own ho2).mono (D' := (· < w2.heap.size)) fun _ h => h.2
          have hw2 := removeAt_wf hw q
          have HRD := Lib.hid hrd
          have hHR := HR.out
          have hcn := HCN.out
          generalize hM : (removeAt c q).length = m at *
          generalize removeAt c q = c2 at *
          have HM := Lib.hid hM; have HL := Lib.hid hlen; have HHR := Lib.hid hHR; have HW2 := Lib.hid hw2
          have hm1 : (m : Int) ≤ 65536 := by omega
          clear ho2 hb2 hrd hM hlen hHR hw2 hcn
          go_wp2_with fail
          refine ⟨⟨c2, m, (m : Int) - 1, A2, m, cap2, rfl, rfl, by omega, by omega, by omega, by omega, by omega, HRD.out, HW2.out, by first | exact HHR.out | (have := HHR.out; rwa [HM.out] at this), hB2⟩, ?_⟩
          have := HL.out; have := HCN.out
          simp [intOf, sliceLen]; omega
        | false =>
          have hstep := hskp (by simp)
          rw [hstep] at hR
          have HR := Lib.hid hR; have HCN := Lib.hid hcn
          clear hC hj0 hj1 hj hrem hskp hx hy hv hR hstep hcn
          go_wp2_with fail
          refine wp_region_grow (by kernel_rfl) (by kernel_rfl) ?_; intro W hW; have hneW : Nonempty (Grw W) := ⟨⟨W, Below.refl _ _⟩⟩; have HBz := Lib.hid (fun z => Below.next (show Below w.heap.size w W by (rw [hW]; exact (by repeat' (first | (with_reducible assumption) | (with_reducible exact Below.refl _ _) | (with_reducible refine Below.alloc ?_ ?_ _) | (with_reducible refine Bk.drewN_ ?_ _) | (with_reducible refine Below.drew ?_) | (with_reducible refine Below.setCell ?_ ?_ _) | go_size)))) (grow_below W z))
          have k0 := cell_grow hW hbw HX.out.1; have k1 := cell_grow hW hbw HX.out.2.1; have k2 := cell_grow hW hbw HX.out.2.2.1; have k3 := cell_grow hW hbw HX.out.2.2.2.1; have k4 := cell_grow hW hbw HX.out.2.2.2.2; have k5 := cell_grow hW hbw HY.out.1; have k6 := cell_grow hW hbw HY.out.2.1; have k7 := cell_grow hW hbw HY.out.2.2.1; have k8 := cell_grow hW hbw HY.out.2.2.2.1; have k9 := cell_grow hW hbw HY.out.2.2.2.2; have HW := Lib.hid hW; clear hW
          repeat (go_big_quiet_step ((go_at_call 13; with_reducible exact quiet_grow (c_refCancels' _ _ _ _ _ _ _ _ _ _ HV.out hx0 _))))
          clear k0 k1 k2 k3 k4 k5 k6 k7 k8 k9
          refine wpQuiet_nil ?_; rintro _ ⟨z, rfl⟩; have hb1 := grow_below W z; have hB1 := HBz.out z; generalize grow W z = w1 at hb1 hB1 ⊢; have hW := HW.out; clear HW HBz hneW; subst hW; obtain ⟨hc1, hf1⟩ := bcell hb1; obtain ⟨hcA1, hfA1⟩ := bcell hB1; have HB1 := Lib.hid hb1; clear hb1
          have hR1 := HC2.out.next HB1.out
          have HR1 := Lib.hid hR1; clear hR1
          clear hc1 hf1 hcA1 hfA1
          go_wp2_with fail
          refine ⟨⟨c, q, (q : Int) - 1, _, n', cap', rfl, rfl, by omega, by omega, by omega, by omega, hn', HR1.out, hw, HR.out, hB1⟩, ?_⟩
          simp [intOf, sliceLen]; omega
      · have hstep := refLoop_skip c q (by omega)
        rw [hstep] at hR
        have HR := Lib.hid hR; have HCN := Lib.hid hcn; have HC2 := Lib.hid hC
        have q1b : decide ((q : Int) + 1 < (n' : Int)) = false := by simp; omega
        clear hC hj0 hj1 hj hR hstep hcn
        go_wp2_with fail
        go_quiet (fail)
        go_wp2_with fail
        refine ⟨⟨c, q, (q : Int) - 1, _, n', cap', rfl, rfl, by omega, by omega, by omega, by omega, hn', HC2.out, hw, HR.out, by repeat' (first | (with_reducible assumption) | (with_reducible exact Below.refl _ _) | (with_reducible refine Below.alloc ?_ ?_ _) | (with_reducible refine Bk.drewN_ ?_ _) | (with_reducible refine Below.drew ?_) | (with_reducible refine Below.setCell ?_ ?_ _) | go_size)⟩, ?_⟩
        simp [intOf, sliceLen]; omega
end Go.Proofs.YtfobnkgfbdmakaaDoor
