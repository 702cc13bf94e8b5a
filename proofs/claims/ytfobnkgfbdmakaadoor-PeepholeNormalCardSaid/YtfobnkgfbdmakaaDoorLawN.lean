/- The walk of the law PeepholeNormal. -/
import Derived.Test.YtfobnkgfbdmakaaDoorLawO
set_option linter.unusedVariables false
namespace Go.Proofs.YtfobnkgfbdmakaaDoor
open Go.RowKit Bk

set_option maxRecDepth 100000 in
set_option maxHeartbeats 8000000 in
theorem c_lawNormal (A : Option Addr) (n cap : Nat) (im : Img) (w : World) (hC : Rd w (· < w.heap.size) 5 A n (codeCells im.code)) (hw : CodeWf im.code) (hTab : TableAt w) :
    Calls Tryd.prog 6 #[.agg #[.slice A n cap, .int .i64 im.mem, .int .i64 im.stacks]] w fun e w' => e = .returned (.bool true) ∧ Below w.heap.size w w' := by
  have hn : n = im.code.length := by have := hC.1; rw [codeCells_length] at this; omega
  obtain ⟨v, hv⟩ : ∃ v, (decide (n ≤ 90) && im.valid) = v := ⟨_, rfl⟩
  have HN := Lib.hid hn; have HT := Lib.hid hTab; have HC := Lib.hid hC; have HV := Lib.hid hv
  clear hn hTab hC hv
  go_enter Tryd.func6, Tryd.ntmps6
  go_wp2_with fail
  refine (c_awake _ (HT.out.next (by repeat' (first | (with_reducible assumption) | (with_reducible exact Below.refl _ _) | (with_reducible refine Below.alloc ?_ ?_ _) | (with_reducible refine Bk.drewN_ ?_ _) | (with_reducible refine Below.drew ?_) | (with_reducible refine Below.setCell ?_ ?_ _) | go_size)))).mono ?_
  rintro e w1 ⟨rfl, hb1⟩
  have hB1 : Below w.heap.size w w1 := Below.trans (by repeat' (first | (with_reducible assumption) | (with_reducible exact Below.refl _ _) | (with_reducible refine Below.alloc ?_ ?_ _) | (with_reducible refine Bk.drewN_ ?_ _) | (with_reducible refine Below.drew ?_) | (with_reducible refine Below.setCell ?_ ?_ _) | go_size)) (hb1.mono (by go_size))
  have K_1 : Blk w1 (w.heap.size) 30 #[.slice A n cap, .int .i64 im.mem, .int .i64 im.stacks] := Blk.next (by repeat' (first | exact H_1.out | exact K0_1 | (refine Blk.new' ?_ _ _; simp; done) | refine Blk.alloc ?_ _ | refine Blk.drewN ?_ _ | refine Blk.drew ?_)) hb1; (try clear H_1); (try clear T_1); (try clear z_1); (try clear F_1); obtain ⟨z_1, T_1, F_1⟩ := K_1.open_; have H_1 := Lib.hid K_1; clear K_1
  clear hb1
  go_wp2_with fail
  refine (c_smallV _ _ _ im _ HV.out (HC.out.next (by repeat' (first | (with_reducible assumption) | (with_reducible exact Below.refl _ _) | (with_reducible refine Below.alloc ?_ ?_ _) | (with_reducible refine Bk.drewN_ ?_ _) | (with_reducible refine Below.drew ?_) | (with_reducible refine Below.setCell ?_ ?_ _) | go_size))) hw (HT.out.next (by repeat' (first | (with_reducible assumption) | (with_reducible exact Below.refl _ _) | (with_reducible refine Below.alloc ?_ ?_ _) | (with_reducible refine Bk.drewN_ ?_ _) | (with_reducible refine Below.drew ?_) | (with_reducible refine Below.setCell ?_ ?_ _) | go_size)))).mono ?_
  rintro e w2 ⟨rfl, hb2⟩
  have hB2 : Below w.heap.size w w2 := Below.trans (by repeat' (first | (with_reducible assumption) | (with_reducible exact Below.refl _ _) | (with_reducible refine Below.alloc ?_ ?_ _) | (with_reducible refine Bk.drewN_ ?_ _) | (with_reducible refine Below.drew ?_) | (with_reducible refine Below.setCell ?_ ?_ _) | go_size)) (hb2.mono (by go_size))
  have K_1 : Blk w2 (w.heap.size) 30 #[.slice A n cap, .int .i64 im.mem, .int .i64 im.stacks] := Blk.next (by repeat' (first | exact H_1.out | exact K0_1 | (refine Blk.new' ?_ _ _; simp; done) | refine Blk.alloc ?_ _ | refine Blk.drewN ?_ _ | refine Blk.drew ?_)) hb2; (try clear H_1); (try clear T_1); (try clear z_1); (try clear F_1); obtain ⟨z_1, T_1, F_1⟩ := K_1.open_; have H_1 := Lib.hid K_1; clear K_1
  clear hb2
  cases v with
  | false =>
    go_wp2_with fail
    refine (c_awake _ (HT.out.next (by repeat' (first | (with_reducible assumption) | (with_reducible exact Below.refl _ _) | (with_reducible refine Below.alloc ?_ ?_ _) | (with_reducible refine Bk.drewN_ ?_ _) | (with_reducible refine Below.drew ?_) | (with_reducible refine Below.setCell ?_ ?_ _) | go_size)))).mono ?_
    rintro e w3 ⟨rfl, hb3⟩
    have hB3 : Below w.heap.size w w3 := Below.trans (by repeat' (first | (with_reducible assumption) | (with_reducible exact Below.refl _ _) | (with_reducible refine Below.alloc ?_ ?_ _) | (with_reducible refine Bk.drewN_ ?_ _) | (with_reducible refine Below.drew ?_) | (with_reducible refine Below.setCell ?_ ?_ _) | go_size)) (hb3.mono (by go_size))
    go_wp2_with fail
    go_ret
    exact ⟨rfl, hB3⟩
  | true =>
    obtain ⟨h90, hck⟩ := small_check HV.out
    have hle : (optCode im.code).length ≤ im.code.length := by rw [optCode_length]; exact kept_length _
    have hck2 := opt_valid hck hw
    have hw2 : CodeWf (optCode im.code) := optCode_wf hw (by have := HN.out; omega)
    have hnp : NoPair (optCode im.code) := opt_noPair
    have hag : optCode (optCode im.code) = optCode im.code := opt_again hck2 hnp
    have HCK := Lib.hid hck; have HLE := Lib.hid hle; have HCK2 := Lib.hid hck2; have HW2 := Lib.hid hw2; have HNP := Lib.hid hnp; have HAG := Lib.hid hag
    clear hck hle hck2 hw2 hnp hag
    go_wp2_with fail
    refine (c_OptimizeG _ _ _ im HCK.out _ (HC.out.next (by repeat' (first | (with_reducible assumption) | (with_reducible exact Below.refl _ _) | (with_reducible refine Below.alloc ?_ ?_ _) | (with_reducible refine Bk.drewN_ ?_ _) | (with_reducible refine Below.drew ?_) | (with_reducible refine Below.setCell ?_ ?_ _) | go_size))) hw (HT.out.next (by repeat' (first | (with_reducible assumption) | (with_reducible exact Below.refl _ _) | (with_reducible refine Below.alloc ?_ ?_ _) | (with_reducible refine Bk.drewN_ ?_ _) | (with_reducible refine Below.drew ?_) | (with_reducible refine Below.setCell ?_ ?_ _) | go_size)))).mono ?_
    rintro e w3 ⟨A3, m3, c3, rfl, hm3, hR3, hb3⟩
    have hB3 : Below w.heap.size w w3 := Below.trans (by repeat' (first | (with_reducible assumption) | (with_reducible exact Below.refl _ _) | (with_reducible refine Below.alloc ?_ ?_ _) | (with_reducible refine Bk.drewN_ ?_ _) | (with_reducible refine Below.drew ?_) | (with_reducible refine Below.setCell ?_ ?_ _) | go_size)) (hb3.mono (by go_size))
    have K_1 : Blk w3 (w.heap.size) 30 #[.slice A n cap, .int .i64 im.mem, .int .i64 im.stacks] := Blk.next (by repeat' (first | exact H_1.out | exact K0_1 | (refine Blk.new' ?_ _ _; simp; done) | refine Blk.alloc ?_ _ | refine Blk.drewN ?_ _ | refine Blk.drew ?_)) hb3; (try clear H_1); (try clear T_1); (try clear z_1); (try clear F_1); obtain ⟨z_1, T_1, F_1⟩ := K_1.open_; have H_1 := Lib.hid K_1; clear K_1
    have hmn : m3 ≤ n := by have := HLE.out; have := HN.out; omega
    have HR3 := Lib.hid hR3
    have HM3 := Lib.hid hm3
    clear hb3 hR3 hm3
    go_wp2_with fail
    refine (c_imValid' _ _ _ { im with code := optCode im.code } (v := true) (by unfold Img.valid; exact decide_eq_true HCK2.out) _ (HR3.out.next (by repeat' (first | (with_reducible assumption) | (with_reducible exact Below.refl _ _) | (with_reducible refine Below.alloc ?_ ?_ _) | (with_reducible refine Bk.drewN_ ?_ _) | (with_reducible refine Below.drew ?_) | (with_reducible refine Below.setCell ?_ ?_ _) | go_size))) HW2.out (HT.out.next (by repeat' (first | (with_reducible assumption) | (with_reducible exact Below.refl _ _) | (with_reducible refine Below.alloc ?_ ?_ _) | (with_reducible refine Bk.drewN_ ?_ _) | (with_reducible refine Below.drew ?_) | (with_reducible refine Below.setCell ?_ ?_ _) | go_size)))).mono ?_
    rintro e w4 ⟨rfl, hb4⟩
    have hB4 : Below w.heap.size w w4 := Below.trans (by repeat' (first | (with_reducible assumption) | (with_reducible exact Below.refl _ _) | (with_reducible refine Below.alloc ?_ ?_ _) | (with_reducible refine Bk.drewN_ ?_ _) | (with_reducible refine Below.drew ?_) | (with_reducible refine Below.setCell ?_ ?_ _) | go_size)) (hb4.mono (by go_size))
    have K_1 : Blk w4 (w.heap.size) 30 #[.slice A n cap, .int .i64 im.mem, .int .i64 im.stacks] := Blk.next (by repeat' (first | exact H_1.out | exact K0_1 | (refine Blk.new' ?_ _ _; simp; done) | refine Blk.alloc ?_ _ | refine Blk.drewN ?_ _ | refine Blk.drew ?_)) hb4; have K_3 : Blk w4 (w3.heap.size) 30 #[.slice A3 m3 c3, .int .i64 im.mem, .int .i64 im.stacks] := Blk.next (by repeat' (first | exact H_3.out | exact K0_3 | (refine Blk.new' ?_ _ _; simp; done) | refine Blk.alloc ?_ _ | refine Blk.drewN ?_ _ | refine Blk.drew ?_)) hb4; (try clear H_1); (try clear T_1); (try clear z_1); (try clear F_1); (try clear H_3); (try clear T_3); (try clear z_3); (try clear F_3); obtain ⟨z_1, T_1, F_1⟩ := K_1.open_; have H_1 := Lib.hid K_1; clear K_1; obtain ⟨z_3, T_3, F_3⟩ := K_3.open_; have H_3 := Lib.hid K_3; clear K_3
    have hR4 := HR3.out.next (Below.trans (by repeat' (first | (with_reducible assumption) | (with_reducible exact Below.refl _ _) | (with_reducible refine Below.alloc ?_ ?_ _) | (with_reducible refine Bk.drewN_ ?_ _) | (with_reducible refine Below.drew ?_) | (with_reducible refine Below.setCell ?_ ?_ _) | go_size)) (hb4.mono (by go_size)))
    have HR4 := Lib.hid hR4
    have hgt : decide ((n : Int) < (m3 : Int)) = false := by simp; omega
    clear hb4 hR4
    go_wp2_with fail
    have HHB4 := Lib.hid hB4
    go_loopw [5] (fun v5 wr => ∃ k : Nat, v5 = .int .i64 ((k : Int) + 1) ∧ k ≤ m3 ∧ Below w.heap.size w wr ∧ Below w4.heap.size w4 wr) (fun i _ => m3 + 1 - (intOf i).toNat)
    case atStart => exact ⟨0, rfl, Nat.zero_le _, hB4, Below.refl _ _⟩
    case round =>
      obtain ⟨k, rfl, hk, hB, hBr⟩ := hrel
      have K1 := H_1.out.next hBr
      have K3 := H_3.out.next hBr
      have hRr := HR4.out.next hBr
      have HRr := Lib.hid hRr
      clear T_1 z_1 F_1 T_3 z_3 F_3 hRr
      obtain ⟨z1, T1, F1⟩ := K1.open_
      obtain ⟨z3, T3, F3⟩ := K3.open_
      have HK1 := Lib.hid K1; have HK3 := Lib.hid K3; clear K1 K3
      by_cases hlt : k + 1 < m3
      · have hm := HM3.out
        have hcells := fun (j : Nat) (hj : j < m3) => HRr.out
        obtain ⟨b, off, rfl, hbw, _⟩ := HRr.out.2 (by omega)
        obtain ⟨x0, x1, x2, x3, x4⟩ := HRr.out.insAt (k := k) (by omega)
        obtain ⟨y0, y1, y2, y3, y4⟩ := HRr.out.insAt (k := k + 1) (by omega)
        have hno := HNP.out k (by omega)
        have hx0 := HW2.out.op0 k
        have hx1 := (HW2.out k (by omega)).op1
        generalize (optCode im.code).getD k default = x at *
        generalize (optCode im.code).getD (k + 1) default = y at *
        have HNo : Hid (cancels ⟨x.op, x.a, x.b, x.c, x.d⟩ ⟨y.op, y.a, y.b, y.c, y.d⟩ = false) := Lib.hid hno
        have HX := Lib.hid (And.intro x0 (And.intro x1 (And.intro x2 (And.intro x3 x4))))
        have HY := Lib.hid (And.intro y0 (And.intro y1 (And.intro y2 (And.intro y3 y4))))
        have i1 : (0 : Int) ≤ (k : Int) := by omega
        have i2 : (k : Int) + 1 < (m3 : Int) := by omega
        have i3 : (k : Int) < (m3 : Int) := by omega
        have i4 : decide ((k : Int) + 1 < (m3 : Int)) = true := by simp; omega
        have i5 : ¬ m3 ≤ k := by omega
        have i6 : ¬ m3 ≤ k + 1 := by omega
        clear x0 x1 x2 x3 x4 y0 y1 y2 y3 y4 hno hm hcells
        go_wp2_with fail
        refine wp_region_grow (by kernel_rfl) (by kernel_rfl) ?_; intro W hW; have hneW : Nonempty (Grw W) := ⟨⟨W, Below.refl _ _⟩⟩; have HBz := Lib.hid (fun z => Below.next (show Below w.heap.size w W by (rw [hW]; exact (by repeat' (first | (with_reducible assumption) | (with_reducible exact Below.refl _ _) | (with_reducible refine Below.alloc ?_ ?_ _) | (with_reducible refine Bk.drewN_ ?_ _) | (with_reducible refine Below.drew ?_) | (with_reducible refine Below.setCell ?_ ?_ _) | go_size)))) (grow_below W z))
        have Z1 := fun z => (HK1.out.next (w' := grow W z) (by rw [← hW]; exact grow_below W z)).cell
        have Z3 := fun z => (HK3.out.next (w' := grow W z) (by rw [← hW]; exact grow_below W z)).cell
        have k0 := cell_grow hW hbw HX.out.1; have k1 := cell_grow hW hbw HX.out.2.1; have k2 := cell_grow hW hbw HX.out.2.2.1; have k3 := cell_grow hW hbw HX.out.2.2.2.1; have k4 := cell_grow hW hbw HX.out.2.2.2.2
        have k5 := cell_grow hW hbw HY.out.1; have k6 := cell_grow hW hbw HY.out.2.1; have k7 := cell_grow hW hbw HY.out.2.2.1; have k8 := cell_grow hW hbw HY.out.2.2.2.1; have k9 := cell_grow hW hbw HY.out.2.2.2.2
        have HW := Lib.hid hW; clear hW
        repeat (go_big_quiet_step ((go_at_call 11; with_reducible exact quiet_grow (c_Cancels' _ _ _ _ _ _ _ _ _ _ HNo.out hx0 hx1 _ (HT.out.next (HBz.out _))))))
        clear Z1 Z3 k0 k1 k2 k3 k4 k5 k6 k7 k8 k9
        refine wpQuiet_nil ?_; rintro _ ⟨z, rfl⟩; have hb1 := grow_below W z; have hB1 := HBz.out z; generalize grow W z = w1 at hb1 hB1 ⊢; have hW := HW.out; clear HW HBz hneW; subst hW; obtain ⟨hc1, hf1⟩ := bcell hb1; obtain ⟨hcA1, hfA1⟩ := bcell hB1; have HB1 := Lib.hid hb1; clear hb1
        clear hc1 hf1 hcA1 hfA1
        go_wp2_with fail
        exact ⟨⟨k + 1, by go_num, by omega, hB1, hBr.next HB1.out⟩, by simp [intOf]; omega⟩
      · have i4 : decide ((k : Int) + 1 < (m3 : Int)) = false := by simp; omega
        go_wp2_with fail
        refine (c_OptimizeG _ _ _ { im with code := optCode im.code } HCK2.out _ (HRr.out.next (by repeat' (first | (with_reducible assumption) | (with_reducible exact Below.refl _ _) | (with_reducible refine Below.alloc ?_ ?_ _) | (with_reducible refine Bk.drewN_ ?_ _) | (with_reducible refine Below.drew ?_) | (with_reducible refine Below.setCell ?_ ?_ _) | go_size))) HW2.out (HT.out.next (by repeat' (first | (with_reducible assumption) | (with_reducible exact Below.refl _ _) | (with_reducible refine Below.alloc ?_ ?_ _) | (with_reducible refine Bk.drewN_ ?_ _) | (with_reducible refine Below.drew ?_) | (with_reducible refine Below.setCell ?_ ?_ _) | go_size)))).mono ?_
        rintro e w6 ⟨A6, m6, c6, rfl, hm6, hR6, hb6⟩
        have hB6 : Below w.heap.size w w6 := Below.trans (by repeat' (first | (with_reducible assumption) | (with_reducible exact Below.refl _ _) | (with_reducible refine Below.alloc ?_ ?_ _) | (with_reducible refine Bk.drewN_ ?_ _) | (with_reducible refine Below.drew ?_) | (with_reducible refine Below.setCell ?_ ?_ _) | go_size)) (hb6.mono (by go_size))
        have hsz6 := hB6.size
        have K3 : Blk w6 w3.heap.size 30 #[.slice A3 m3 c3, .int .i64 im.mem, .int .i64 im.stacks] := Blk.next HK3.out hb6
        have hR3b := HRr.out.next hb6
        simp only at hm6 hR6
        rw [HAG.out] at hm6 hR6
        obtain rfl : m3 = m6 := by rw [hm6, HM3.out]
        have HR3b := Lib.hid hR3b; have HR6 := Lib.hid hR6
        clear z1 T1 F1 z3 T3 F3 HK1 HK3 hb6 hR3b hR6 hm6
        obtain ⟨z3, T3, F3⟩ := K3.open_
        have HK3 := Lib.hid K3; clear K3
        go_wp2_with fail
        refine (c_codesV _ _ _ _ _ _ (optCode im.code) _ (by omega) (HR3b.out.next (by repeat' (first | (with_reducible assumption) | (with_reducible exact Below.refl _ _) | (with_reducible refine Below.alloc ?_ ?_ _) | (with_reducible refine Bk.drewN_ ?_ _) | (with_reducible refine Below.drew ?_) | (with_reducible refine Below.setCell ?_ ?_ _) | go_size))) (HR6.out.next (by repeat' (first | (with_reducible assumption) | (with_reducible exact Below.refl _ _) | (with_reducible refine Below.alloc ?_ ?_ _) | (with_reducible refine Bk.drewN_ ?_ _) | (with_reducible refine Below.drew ?_) | (with_reducible refine Below.setCell ?_ ?_ _) | go_size)))).mono ?_
        rintro e w7 ⟨rfl, hb7⟩
        have hB7 : Below w.heap.size w w7 := Below.trans (by repeat' (first | (with_reducible assumption) | (with_reducible exact Below.refl _ _) | (with_reducible refine Below.alloc ?_ ?_ _) | (with_reducible refine Bk.drewN_ ?_ _) | (with_reducible refine Below.drew ?_) | (with_reducible refine Below.setCell ?_ ?_ _) | go_size)) (hb7.mono (by go_size))
        have hsz7 := hB7.size
        have K3 : Blk w7 w3.heap.size 30 #[.slice A3 m3 c3, .int .i64 im.mem, .int .i64 im.stacks] := Blk.next (HK3.out.alloc _) hb7
        have hR7 := (HR3b.out.next (w' := w7) (Below.trans (by repeat' (first | (with_reducible assumption) | (with_reducible exact Below.refl _ _) | (with_reducible refine Below.alloc ?_ ?_ _) | (with_reducible refine Bk.drewN_ ?_ _) | (with_reducible refine Below.drew ?_) | (with_reducible refine Below.setCell ?_ ?_ _) | go_size)) (hb7.mono (by go_size))))
        have HR7 := Lib.hid hR7
        clear z3 T3 F3 HK3 hb7 hR7
        obtain ⟨z3, T3, F3⟩ := K3.open_
        have HK3 := Lib.hid K3; clear K3
        have hrem : removed { im with code := optCode im.code } = 0 := by
          rw [removed_eq HCK2.out]; simp only; rw [HAG.out]; omega
        have HREM := Lib.hid hrem; clear hrem
        go_wp2_with fail
        refine (c_RemovedV _ _ _ { im with code := optCode im.code } HREM.out _ (by omega) (HR7.out.next (by repeat' (first | (with_reducible assumption) | (with_reducible exact Below.refl _ _) | (with_reducible refine Below.alloc ?_ ?_ _) | (with_reducible refine Bk.drewN_ ?_ _) | (with_reducible refine Below.drew ?_) | (with_reducible refine Below.setCell ?_ ?_ _) | go_size))) HW2.out (HT.out.next (by repeat' (first | (with_reducible assumption) | (with_reducible exact Below.refl _ _) | (with_reducible refine Below.alloc ?_ ?_ _) | (with_reducible refine Bk.drewN_ ?_ _) | (with_reducible refine Below.drew ?_) | (with_reducible refine Below.setCell ?_ ?_ _) | go_size)))).mono ?_
        rintro e w8 ⟨rfl, hb8⟩
        have hB8 : Below w.heap.size w w8 := Below.trans (by repeat' (first | (with_reducible assumption) | (with_reducible exact Below.refl _ _) | (with_reducible refine Below.alloc ?_ ?_ _) | (with_reducible refine Bk.drewN_ ?_ _) | (with_reducible refine Below.drew ?_) | (with_reducible refine Below.setCell ?_ ?_ _) | go_size)) (hb8.mono (by go_size))
        have hsz8 := hB8.size
        go_wp2_with fail
        go_ret
        exact ⟨rfl, hB8⟩
end Go.Proofs.YtfobnkgfbdmakaaDoor
