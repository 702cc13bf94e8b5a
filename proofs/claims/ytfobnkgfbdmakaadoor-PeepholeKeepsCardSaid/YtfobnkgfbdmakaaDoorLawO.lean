/- The walk of the law PeepholeOptimize. -/
import Derived.Test.YtfobnkgfbdmakaaDoorAwake
import Derived.Test.YtfobnkgfbdmakaaDoorCodes
import Derived.Test.YtfobnkgfbdmakaaDoorRefOpt
import Derived.Test.YtfobnkgfbdmakaaDoorNorm
set_option linter.unusedVariables false
namespace Go.Proofs.YtfobnkgfbdmakaaDoor
open Go.RowKit Bk

theorem c_smallV (A : Option Addr) (n cap : Nat) (im : Img) {v : Bool} (w : World) (h : (decide (n ≤ 90) && im.valid) = v) (hC : Rd w (· < w.heap.size) 5 A n (codeCells im.code)) (hw : CodeWf im.code) (hTab : TableAt w) :
    Calls Tryd.prog 14 #[.agg #[.slice A n cap, .int .i64 im.mem, .int .i64 im.stacks]] w fun e w' => e = .returned (.bool v) ∧ Below w.heap.size w w' := by
  rw [← h]; exact c_small A n cap im w hC hw hTab
theorem c_codesV (A A' : Option Addr) (n cap n' cap' : Nat) (c : Prg) (w : World) (hmax : n ≤ 65536)
    (hC : Rd w (· < w.heap.size) 5 A n (codeCells c)) (hC' : Rd w (· < w.heap.size) 5 A' n' (codeCells c)) :
    Calls Tryd.prog 18 #[.slice A n cap, .slice A' n' cap'] w fun e w' => e = .returned (.bool true) ∧ Below w.heap.size w w' := by
  have := c_codes A A' n cap n' cap' c c w hmax (fun _ h => h) (fun _ h => h) hC hC'
  rwa [decide_eq_true rfl] at this
theorem c_RemovedV (A : Option Addr) (n cap : Nat) (im : Img) {r : Int} (h : removed im = r) (w : World) (hmax : n ≤ 65536) (hC : Rd w (· < w.heap.size) 5 A n (codeCells im.code)) (hw : CodeWf im.code) (hTab : TableAt w) :
    Calls Tryd.prog 20 #[.agg #[.slice A n cap, .int .i64 im.mem, .int .i64 im.stacks]] w fun e w' => e = .returned (.int .i64 r) ∧ Below w.heap.size w w' := by
  rw [← h]; exact c_Removed A n cap im w hmax hC hw hTab
/-- Optimize of a valid image. -/
theorem c_OptimizeG (A : Option Addr) (n cap : Nat) (im : Img) (hck : im.check.2 = 0) (w : World) (hC : Rd w (· < w.heap.size) 5 A n (codeCells im.code)) (hw : CodeWf im.code) (hTab : TableAt w) :
    Calls Tryd.prog 17 #[.agg #[.slice A n cap, .int .i64 im.mem, .int .i64 im.stacks]] w fun e w' =>
      ∃ A' m c, e = .returned (.tuple #[.agg #[.slice A' m c, .int .i64 im.mem, .int .i64 im.stacks], .int .i64 0]) ∧ m = (optCode im.code).length ∧
        Rd w' (· < w'.heap.size) 5 A' m (codeCells (optCode im.code)) ∧ Below w.heap.size w w' := by
  have := c_Optimize A n cap im w hC hw hTab
  have e : optimize im = ({ im with code := optCode im.code }, 0) := by unfold optimize; rw [if_pos hck]
  rw [e] at this
  refine this.mono fun e w' ⟨A', m, c, h1, h2, h3⟩ => ⟨A', m, c, h1, ?_, h2.mono fun _ h => h.2, h3⟩
  have := h2.1; rw [codeCells_length] at this; simp only at this; omega
theorem removed_eq {im : Img} (h : im.check.2 = 0) : removed im = (im.code.length : Int) - (optCode im.code).length := by unfold removed; rw [if_pos h]
theorem small_check {n : Nat} {im : Img} (h : (decide (n ≤ 90) && im.valid) = true) : n ≤ 90 ∧ im.check.2 = 0 := by
  simp only [Bool.and_eq_true, decide_eq_true_eq] at h
  exact ⟨h.1, by have := h.2; unfold Img.valid at this; exact of_decide_eq_true this⟩

set_option maxRecDepth 100000 in
set_option maxHeartbeats 4000000 in
theorem c_lawOptimize (A : Option Addr) (n cap : Nat) (im : Img) (w : World) (hC : Rd w (· < w.heap.size) 5 A n (codeCells im.code)) (hw : CodeWf im.code) (hTab : TableAt w) :
    Calls Tryd.prog 5 #[.agg #[.slice A n cap, .int .i64 im.mem, .int .i64 im.stacks]] w fun e w' => e = .returned (.bool true) ∧ Below w.heap.size w w' := by
  have hn : n = im.code.length := by have := hC.1; rw [codeCells_length] at this; omega
  obtain ⟨v, hv⟩ : ∃ v, (decide (n ≤ 90) && im.valid) = v := ⟨_, rfl⟩
  have HN := Lib.hid hn; have HT := Lib.hid hTab; have HC := Lib.hid hC; have HV := Lib.hid hv
  clear hn hTab hC hv
  go_enter Tryd.func5, Tryd.ntmps5
  go_wp2_with fail
  refine (c_awake _ (HT.out.next (by repeat' (first | (with_reducible assumption) | (with_reducible exact Below.refl _ _) | (with_reducible refine Below.alloc ?_ ?_ _) | (with_reducible refine Bk.drewN_ ?_ _) | (with_reducible refine Below.drew ?_) | (with_reducible refine Below.setCell ?_ ?_ _) | go_size)))).mono ?_
  rintro e w1 ⟨rfl, hb1⟩
  have hB1 : Below w.heap.size w w1 := Below.trans (by repeat' (first | (with_reducible assumption) | (with_reducible exact Below.refl _ _) | (with_reducible refine Below.alloc ?_ ?_ _) | (with_reducible refine Bk.drewN_ ?_ _) | (with_reducible refine Below.drew ?_) | (with_reducible refine Below.setCell ?_ ?_ _) | go_size)) (hb1.mono (by go_size))
  have K_1 : Blk w1 (w.heap.size) 30 #[.slice A n cap, .int .i64 im.mem, .int .i64 im.stacks] := Blk.next (by repeat' (first | with_reducible exact H_1.out | with_reducible exact K0_1 | (refine Blk.new' ?_ _ _; simp; done) | with_reducible refine Blk.alloc ?_ _ | with_reducible refine Blk.drewN ?_ _ | with_reducible refine Blk.drew ?_)) hb1; (try clear H_1); (try clear T_1); (try clear z_1); (try clear F_1); obtain ⟨z_1, T_1, F_1⟩ := K_1.open_; have H_1 := Lib.hid K_1; clear K_1
  clear hb1
  go_wp2_with fail
  refine (c_smallV _ _ _ im _ HV.out (HC.out.next (by repeat' (first | (with_reducible assumption) | (with_reducible exact Below.refl _ _) | (with_reducible refine Below.alloc ?_ ?_ _) | (with_reducible refine Bk.drewN_ ?_ _) | (with_reducible refine Below.drew ?_) | (with_reducible refine Below.setCell ?_ ?_ _) | go_size))) hw (HT.out.next (by repeat' (first | (with_reducible assumption) | (with_reducible exact Below.refl _ _) | (with_reducible refine Below.alloc ?_ ?_ _) | (with_reducible refine Bk.drewN_ ?_ _) | (with_reducible refine Below.drew ?_) | (with_reducible refine Below.setCell ?_ ?_ _) | go_size)))).mono ?_
  rintro e w2 ⟨rfl, hb2⟩
  have hB2 : Below w.heap.size w w2 := Below.trans (by repeat' (first | (with_reducible assumption) | (with_reducible exact Below.refl _ _) | (with_reducible refine Below.alloc ?_ ?_ _) | (with_reducible refine Bk.drewN_ ?_ _) | (with_reducible refine Below.drew ?_) | (with_reducible refine Below.setCell ?_ ?_ _) | go_size)) (hb2.mono (by go_size))
  have K_1 : Blk w2 (w.heap.size) 30 #[.slice A n cap, .int .i64 im.mem, .int .i64 im.stacks] := Blk.next (by repeat' (first | with_reducible exact H_1.out | with_reducible exact K0_1 | (refine Blk.new' ?_ _ _; simp; done) | with_reducible refine Blk.alloc ?_ _ | with_reducible refine Blk.drewN ?_ _ | with_reducible refine Blk.drew ?_)) hb2; (try clear H_1); (try clear T_1); (try clear z_1); (try clear F_1); obtain ⟨z_1, T_1, F_1⟩ := K_1.open_; have H_1 := Lib.hid K_1; clear K_1
  clear hb2
  cases v with
  | false =>
    go_wp2_with fail
    refine (c_awake _ (HT.out.next (by repeat' (first | (with_reducible assumption) | (with_reducible exact Below.refl _ _) | (with_reducible refine Below.alloc ?_ ?_ _) | (with_reducible refine Bk.drewN_ ?_ _) | (with_reducible refine Below.drew ?_) | (with_reducible refine Below.setCell ?_ ?_ _) | go_size)))).mono ?_
    rintro e w3 ⟨rfl, hb3⟩
    have hB3 : Below w.heap.size w w3 := Below.trans (by repeat' (first | (with_reducible assumption) | (with_reducible exact Below.refl _ _) | (with_reducible refine Below.alloc ?_ ?_ _) | (with_reducible refine Bk.drewN_ ?_ _) | (with_reducible refine Below.drew ?_) | (with_reducible refine Below.setCell ?_ ?_ _) | go_size)) (hb3.mono (by go_size))
    go_wp2_with fail
    go_ret
    exact ⟨rfl, hB3⟩
  | true =>
    obtain ⟨h90, hck⟩ := small_check HV.out
    have hrem := removed_eq hck
    obtain ⟨hg, hp⟩ := valid_good hck
    have href := opt_ref hg hp
    have hle : (optCode im.code).length ≤ im.code.length := by rw [optCode_length]; exact kept_length _
    have HCK := Lib.hid hck; have HREM := Lib.hid hrem; have HREF := Lib.hid href; have HLE := Lib.hid hle
    clear hck hrem hg hp href hle
    go_wp2_with fail
    refine (c_OptimizeG _ _ _ im HCK.out _ (HC.out.next (by repeat' (first | (with_reducible assumption) | (with_reducible exact Below.refl _ _) | (with_reducible refine Below.alloc ?_ ?_ _) | (with_reducible refine Bk.drewN_ ?_ _) | (with_reducible refine Below.drew ?_) | (with_reducible refine Below.setCell ?_ ?_ _) | go_size))) hw (HT.out.next (by repeat' (first | (with_reducible assumption) | (with_reducible exact Below.refl _ _) | (with_reducible refine Below.alloc ?_ ?_ _) | (with_reducible refine Bk.drewN_ ?_ _) | (with_reducible refine Below.drew ?_) | (with_reducible refine Below.setCell ?_ ?_ _) | go_size)))).mono ?_
    rintro e w3 ⟨A3, m3, c3, rfl, hm3, hR3, hb3⟩
    have hB3 : Below w.heap.size w w3 := Below.trans (by repeat' (first | (with_reducible assumption) | (with_reducible exact Below.refl _ _) | (with_reducible refine Below.alloc ?_ ?_ _) | (with_reducible refine Bk.drewN_ ?_ _) | (with_reducible refine Below.drew ?_) | (with_reducible refine Below.setCell ?_ ?_ _) | go_size)) (hb3.mono (by go_size))
    have K_1 : Blk w3 (w.heap.size) 30 #[.slice A n cap, .int .i64 im.mem, .int .i64 im.stacks] := Blk.next (by repeat' (first | with_reducible exact H_1.out | with_reducible exact K0_1 | (refine Blk.new' ?_ _ _; simp; done) | with_reducible refine Blk.alloc ?_ _ | with_reducible refine Blk.drewN ?_ _ | with_reducible refine Blk.drew ?_)) hb3; (try clear H_1); (try clear T_1); (try clear z_1); (try clear F_1); obtain ⟨z_1, T_1, F_1⟩ := K_1.open_; have H_1 := Lib.hid K_1; clear K_1
    have HR3 := Lib.hid hR3
    have HM3 := Lib.hid hm3
    clear hb3 hR3 hm3
    go_wp2_with fail
    refine (c_refOpt _ _ _ im.code _ (by omega) (HC.out.next (by repeat' (first | (with_reducible assumption) | (with_reducible exact Below.refl _ _) | (with_reducible refine Below.alloc ?_ ?_ _) | (with_reducible refine Bk.drewN_ ?_ _) | (with_reducible refine Below.drew ?_) | (with_reducible refine Below.setCell ?_ ?_ _) | go_size))) hw).mono ?_
    rintro e w4 ⟨A4, m4, c4, rfl, hR4, hb4⟩
    have hB4 : Below w.heap.size w w4 := Below.trans (by repeat' (first | (with_reducible assumption) | (with_reducible exact Below.refl _ _) | (with_reducible refine Below.alloc ?_ ?_ _) | (with_reducible refine Bk.drewN_ ?_ _) | (with_reducible refine Below.drew ?_) | (with_reducible refine Below.setCell ?_ ?_ _) | go_size)) (hb4.mono (by go_size))
    have K_1 : Blk w4 (w.heap.size) 30 #[.slice A n cap, .int .i64 im.mem, .int .i64 im.stacks] := Blk.next (by repeat' (first | with_reducible exact H_1.out | with_reducible exact K0_1 | (refine Blk.new' ?_ _ _; simp; done) | with_reducible refine Blk.alloc ?_ _ | with_reducible refine Blk.drewN ?_ _ | with_reducible refine Blk.drew ?_)) hb4; have K_3 : Blk w4 (w3.heap.size) 30 #[.slice A3 m3 c3, .int .i64 im.mem, .int .i64 im.stacks] := Blk.next (by repeat' (first | with_reducible exact H_3.out | with_reducible exact K0_3 | (refine Blk.new' ?_ _ _; simp; done) | with_reducible refine Blk.alloc ?_ _ | with_reducible refine Blk.drewN ?_ _ | with_reducible refine Blk.drew ?_)) hb4; (try clear H_1); (try clear T_1); (try clear z_1); (try clear F_1); (try clear H_3); (try clear T_3); (try clear z_3); (try clear F_3); obtain ⟨z_1, T_1, F_1⟩ := K_1.open_; have H_1 := Lib.hid K_1; clear K_1; obtain ⟨z_3, T_3, F_3⟩ := K_3.open_; have H_3 := Lib.hid K_3; clear K_3
    have hb34 : Below w3.heap.size w3 w4 := Below.trans (by repeat' (first | (with_reducible assumption) | (with_reducible exact Below.refl _ _) | (with_reducible refine Below.alloc ?_ ?_ _) | (with_reducible refine Bk.drewN_ ?_ _) | (with_reducible refine Below.drew ?_) | (with_reducible refine Below.setCell ?_ ?_ _) | go_size)) (hb4.mono (by go_size))
    have hR3 := HR3.out.next hb34
    have hm4 : m4 = (optCode im.code).length := by have := hR4.1; rw [codeCells_length, HREF.out] at this; omega
    rw [HREF.out] at hR4
    obtain rfl : m3 = m4 := by rw [hm4, HM3.out]
    have HR3 := Lib.hid hR3; have HR4 := Lib.hid hR4
    have hr : removed im = (n : Int) - (m3 : Int) := by rw [HREM.out, HN.out, hm4]
    have hmn : m3 ≤ n := by have := HLE.out; have := HN.out; omega
    have HR := Lib.hid hr
    clear hb4 hb34 hR3 hR4 hm4 hr
    go_wp2_with fail
    refine wp_region_grow (by kernel_rfl) (by kernel_rfl) ?_; intro W hW; have hneW : Nonempty (Grw W) := ⟨⟨W, Below.refl _ _⟩⟩; have HBz := Lib.hid (fun z => Below.next (show Below w.heap.size w W by (rw [hW]; exact (by repeat' (first | (with_reducible assumption) | (with_reducible exact Below.refl _ _) | (with_reducible refine Below.alloc ?_ ?_ _) | (with_reducible refine Bk.drewN_ ?_ _) | (with_reducible refine Below.drew ?_) | (with_reducible refine Below.setCell ?_ ?_ _) | go_size)))) (grow_below W z))
    have Z_1 := fun z => (H_1.out.next (w' := grow W z) (by rw [← hW]; exact grow_below W z)).cell; have Z_3 := fun z => (H_3.out.next (w' := grow W z) (by rw [← hW]; exact grow_below W z)).cell; have HW := Lib.hid hW; clear hW
    repeat (go_big_quiet_step ((first | (go_at_call 18; with_reducible exact quiet_grow (c_codesV _ _ _ _ _ _ (optCode im.code) _ (by omega) (HR3.out.next (by rw [← HW.out]; exact grow_below _ _)) (HR4.out.next (by rw [← HW.out]; exact grow_below _ _)))) | (go_at_call 20; with_reducible exact quiet_grow (c_RemovedV _ _ _ im HR.out _ (by omega) (HC.out.next (HBz.out _)) hw (HT.out.next (HBz.out _)))))))
    clear Z_1 Z_3
    refine wpQuiet_nil ?_; rintro _ ⟨z, rfl⟩; have hb1 := grow_below W z; have hB1 := HBz.out z; generalize grow W z = w1 at hb1 hB1 ⊢; have hW := HW.out; clear HW HBz hneW; subst hW; obtain ⟨hc1, hf1⟩ := bcell hb1; obtain ⟨hcA1, hfA1⟩ := bcell hB1; have HB1 := Lib.hid hb1; clear hb1
    go_wp2_with fail
    go_ret
    exact ⟨ret_bool (by simp), by repeat' (first | (with_reducible assumption) | (with_reducible exact Below.refl _ _) | (with_reducible refine Below.alloc ?_ ?_ _) | (with_reducible refine Bk.drewN_ ?_ _) | (with_reducible refine Below.drew ?_) | (with_reducible refine Below.setCell ?_ ?_ _) | go_size)⟩
end Go.Proofs.YtfobnkgfbdmakaaDoor
