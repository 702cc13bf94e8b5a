/- The walks of image.Invert, whole, and of the law PeepholeInverse. -/
import Derived.Test.YtfobnkgfbdmakaaDoorInvert
import Derived.Test.YtfobnkgfbdmakaaDoorLawO
set_option linter.unusedVariables false
namespace Go.Proofs.YtfobnkgfbdmakaaDoor
open Go.RowKit Bk

set_option maxRecDepth 100000 in
set_option maxHeartbeats 4000000 in
theorem Invert.none_ (A : Option Addr) (cap : Nat) (im : Img) (hck : im.check.2 = 0) (w : World) (hC : Rd w (· < w.heap.size) 5 A 0 (codeCells im.code)) (hw : CodeWf im.code) (hTab : TableAt w) :
    Calls Tryd.prog 25 #[.agg #[.slice A 0 cap, .int .i64 im.mem, .int .i64 im.stacks]] w fun e w' =>
      ∃ A' m c, e = .returned (.tuple #[.agg #[.slice A' m c, .int .i64 im.mem, .int .i64 im.stacks], .int .i64 0]) ∧ Rd w' (· < w'.heap.size) 5 A' m (codeCells (invC im.code)) ∧ Below w.heap.size w w' := by
  have hcode : im.code = [] := by
    have := hC.1; rw [codeCells_length] at this
    exact List.eq_nil_of_length_eq_zero (by omega)
  have hinv : invC im.code = [] := by rw [hcode]; rfl
  have HC := Lib.hid hC; have HT := Lib.hid hTab; have HCK := Lib.hid (check_ok hck); have HI := Lib.hid hinv
  clear hC hTab hck hcode hinv
  go_enter Tryd.func25, Tryd.ntmps25
  go_wp2_with fail
  refine (c_Check' _ _ _ im HCK.out _ (HC.out.next (by repeat' (first | (with_reducible assumption) | (with_reducible exact Below.refl _ _) | (with_reducible refine Below.alloc ?_ ?_ _) | (with_reducible refine Bk.drewN_ ?_ _) | (with_reducible refine Below.drew ?_) | (with_reducible refine Below.setCell ?_ ?_ _) | go_size))) hw (HT.out.next (by repeat' (first | (with_reducible assumption) | (with_reducible exact Below.refl _ _) | (with_reducible refine Below.alloc ?_ ?_ _) | (with_reducible refine Bk.drewN_ ?_ _) | (with_reducible refine Below.drew ?_) | (with_reducible refine Below.setCell ?_ ?_ _) | go_size)))).mono ?_
  rintro e w1 ⟨rfl, hb1⟩
  have hB1 : Below w.heap.size w w1 := Below.trans (by repeat' (first | (with_reducible assumption) | (with_reducible exact Below.refl _ _) | (with_reducible refine Below.alloc ?_ ?_ _) | (with_reducible refine Bk.drewN_ ?_ _) | (with_reducible refine Below.drew ?_) | (with_reducible refine Below.setCell ?_ ?_ _) | go_size)) (hb1.mono (by go_size))
  have K_1 : Blk w1 (w.heap.size) 30 #[.slice A 0 cap, .int .i64 im.mem, .int .i64 im.stacks] := Blk.next (by repeat' (first | with_reducible exact H_1.out | with_reducible exact K0_1 | (refine Blk.new' ?_ _ _; simp; done) | with_reducible refine Blk.alloc ?_ _ | with_reducible refine Blk.drewN ?_ _ | with_reducible refine Blk.drew ?_)) hb1; have K_2 : Blk w1 (w.heap.size + 1) 30 #[.slice none 0 0, .int .i64 0, .int .i64 0] := Blk.next (by repeat' (first | with_reducible exact H_2.out | with_reducible exact K0_2 | (refine Blk.new' ?_ _ _; simp; done) | with_reducible refine Blk.alloc ?_ _ | with_reducible refine Blk.drewN ?_ _ | with_reducible refine Blk.drew ?_)) hb1; (try clear H_1); (try clear T_1); (try clear z_1); (try clear F_1); (try clear H_2); (try clear T_2); (try clear z_2); (try clear F_2); obtain ⟨z_1, T_1, F_1⟩ := K_1.open_; have H_1 := Lib.hid K_1; clear K_1; obtain ⟨z_2, T_2, F_2⟩ := K_2.open_; have H_2 := Lib.hid K_2; clear K_2
  clear hb1
  go_wp2_with fail
  refine (c_Clone _ _ _ im.code _ (by decide) (HC.out.next hB1)).mono ?_
  rintro e w2 ⟨v2, rfl, ho2, hb2⟩
  have hB2 : Below w.heap.size w w2 := Below.trans (by repeat' (first | (with_reducible assumption) | (with_reducible exact Below.refl _ _) | (with_reducible refine Below.alloc ?_ ?_ _) | (with_reducible refine Bk.drewN_ ?_ _) | (with_reducible refine Below.drew ?_) | (with_reducible refine Below.setCell ?_ ?_ _) | go_size)) (hb2.mono (by go_size))
  have K_1 : Blk w2 (w.heap.size) 30 #[.slice A 0 cap, .int .i64 im.mem, .int .i64 im.stacks] := Blk.next (by repeat' (first | with_reducible exact H_1.out | with_reducible exact K0_1 | (refine Blk.new' ?_ _ _; simp; done) | with_reducible refine Blk.alloc ?_ _ | with_reducible refine Blk.drewN ?_ _ | with_reducible refine Blk.drew ?_)) hb2; have K_2 : Blk w2 (w.heap.size + 1) 30 #[.slice none 0 0, .int .i64 0, .int .i64 0] := Blk.next (by repeat' (first | with_reducible exact H_2.out | with_reducible exact K0_2 | (refine Blk.new' ?_ _ _; simp; done) | with_reducible refine Blk.alloc ?_ _ | with_reducible refine Blk.drewN ?_ _ | with_reducible refine Blk.drew ?_)) hb2; (try clear H_1); (try clear T_1); (try clear z_1); (try clear F_1); (try clear H_2); (try clear T_2); (try clear z_2); (try clear F_2); obtain ⟨z_1, T_1, F_1⟩ := K_1.open_; have H_1 := Lib.hid K_1; clear K_1; obtain ⟨z_2, T_2, F_2⟩ := K_2.open_; have H_2 := Lib.hid K_2; clear K_2
  obtain ⟨A2, cap2, rfl⟩ := own_form ho2
  clear ho2 hb2
  have e20 : w2.cell? ⟨w.heap.size + 1, 0, none⟩ = some (.slice none 0 0) := T_2 0
  have e21 : w2.cell? ⟨w.heap.size + 1, 1, none⟩ = some (.int .i64 0) := T_2 1
  have e22 : w2.cell? ⟨w.heap.size + 1, 2, none⟩ = some (.int .i64 0) := T_2 2
  go_wp2_with fail
  go_rounds 1
  refine bodyPost_ret (v := .tuple #[.agg #[.slice A2 0 cap2, .int .i64 im.mem, .int .i64 im.stacks], .int .i64 0]) (by simp [results, Tryd.results25, go_sem, e20, e21, e22]) rfl ⟨_, _, _, rfl, ?_, by repeat' (first | (with_reducible assumption) | (with_reducible exact Below.refl _ _) | (with_reducible refine Below.alloc ?_ ?_ _) | (with_reducible refine Bk.drewN_ ?_ _) | (with_reducible refine Below.drew ?_) | (with_reducible refine Below.setCell ?_ ?_ _) | go_size)⟩
  rw [HI.out]
  exact Rd.none_ _

theorem c_Invert (A : Option Addr) (n cap : Nat) (im : Img) (hck : im.check.2 = 0) (w : World) (hC : Rd w (· < w.heap.size) 5 A n (codeCells im.code)) (hw : CodeWf im.code) (hTab : TableAt w) :
    Calls Tryd.prog 25 #[.agg #[.slice A n cap, .int .i64 im.mem, .int .i64 im.stacks]] w fun e w' =>
      ∃ A' m c, e = .returned (.tuple #[.agg #[.slice A' m c, .int .i64 im.mem, .int .i64 im.stacks], .int .i64 0]) ∧ m = im.code.length ∧ Rd w' (· < w'.heap.size) 5 A' m (codeCells (invC im.code)) ∧ Below w.heap.size w w' := by
  have fin : ∀ {e : Ending} {w' : World}, (∃ A' m c, e = .returned (.tuple #[.agg #[.slice A' m c, .int .i64 im.mem, .int .i64 im.stacks], .int .i64 0]) ∧ Rd w' (· < w'.heap.size) 5 A' m (codeCells (invC im.code)) ∧ Below w.heap.size w w') → ∃ A' m c, e = .returned (.tuple #[.agg #[.slice A' m c, .int .i64 im.mem, .int .i64 im.stacks], .int .i64 0]) ∧ m = im.code.length ∧ Rd w' (· < w'.heap.size) 5 A' m (codeCells (invC im.code)) ∧ Below w.heap.size w w' := by
    rintro e w' ⟨A', m, c, h1, h2, h3⟩
    exact ⟨A', m, c, h1, by have := h2.1; rw [codeCells_length, invC_length] at this; omega, h2, h3⟩
  rcases Nat.eq_zero_or_pos n with h0 | h0
  · subst h0
    exact (Invert.none_ A cap im hck w hC hw hTab).mono fun _ _ h => fin h
  · obtain ⟨b, off, rfl, _, _⟩ := hC.2 h0
    exact (Invert.some_ b off n cap im hck h0 w hC hw hTab).mono fun _ _ h => fin h

set_option maxRecDepth 100000 in
set_option maxHeartbeats 8000000 in
theorem c_lawInverse (A : Option Addr) (n cap : Nat) (im : Img) (w : World) (hC : Rd w (· < w.heap.size) 5 A n (codeCells im.code)) (hw : CodeWf im.code) (hTab : TableAt w) :
    Calls Tryd.prog 8 #[.agg #[.slice A n cap, .int .i64 im.mem, .int .i64 im.stacks]] w fun e w' => e = .returned (.bool true) ∧ Below w.heap.size w w' := by
  have hn : n = im.code.length := by have := hC.1; rw [codeCells_length] at this; omega
  obtain ⟨v, hv⟩ : ∃ v, (decide (n ≤ 90) && im.valid) = v := ⟨_, rfl⟩
  have HN := Lib.hid hn; have HT := Lib.hid hTab; have HC := Lib.hid hC; have HV := Lib.hid hv
  clear hn hTab hC hv
  go_enter Tryd.func8, Tryd.ntmps8
  go_wp2_with fail
  refine (c_awake _ (HT.out.next (by repeat' (first | (with_reducible assumption) | (with_reducible exact Below.refl _ _) | (with_reducible refine Below.alloc ?_ ?_ _) | (with_reducible refine Bk.drewN_ ?_ _) | (with_reducible refine Below.drew ?_) | (with_reducible refine Below.setCell ?_ ?_ _) | go_size)))).mono ?_
  rintro e w1 ⟨rfl, hb1⟩
  have hB1 : Below w.heap.size w w1 := Below.trans (by repeat' (first | (with_reducible assumption) | (with_reducible exact Below.refl _ _) | (with_reducible refine Below.alloc ?_ ?_ _) | (with_reducible refine Bk.drewN_ ?_ _) | (with_reducible refine Below.drew ?_) | (with_reducible refine Below.setCell ?_ ?_ _) | go_size)) (hb1.mono (by go_size))
  have K_1 : Blk w1 (w.heap.size) 30 #[.slice A n cap, .int .i64 im.mem, .int .i64 im.stacks] := Blk.next (by repeat' (first | with_reducible exact H_1.out | with_reducible exact K0_1 | (refine Blk.new' ?_ _ _; simp; done) | with_reducible refine Blk.alloc ?_ _ | with_reducible refine Blk.drewN ?_ _ | with_reducible refine Blk.drew ?_)) hb1; (try clear H_1); (try clear T_1); (try clear z_1); (try clear F_1); obtain ⟨z_1, T_1, F_1⟩ := K_1.open_; have H_1 := Lib.hid K_1; clear K_1
  clear hb1
  go_wp2_with fail
  refine (c_smallV _ _ _ im _ HV.out (HC.out.next (by repeat' (first | (with_reducible assumption) | (with_reducible exact Below.refl _ _) | (with_reducible refine Below.alloc ?_ ?_ _) | (with_reducible refine Bk.drewN_ ?_ _) | (with_reducible refine Below.drew ?_) | (with_reducible refine Below.setCell ?_ ?_ _) | go_size))) hw (HT.out.next (by repeat' (first | (with_reducible assumption) | (with_reducible exact Below.refl _ _) | (with_reducible refine Below.alloc ?_ ?_ _) | (with_reducible refine Bk.drewN_ ?_ _) | (with_reducible refine Below.drew ?_) | (with_reducible refine Below.setCell ?_ ?_ _) | go_size)))).mono ?_
  rintro e w2 ⟨rfl, hb2⟩
  have hB2 : Below w.heap.size w w2 := Below.trans (by repeat' (first | (with_reducible assumption) | (with_reducible exact Below.refl _ _) | (with_reducible refine Below.alloc ?_ ?_ _) | (with_reducible refine Bk.drewN_ ?_ _) | (with_reducible refine Below.drew ?_) | (with_reducible refine Below.setCell ?_ ?_ _) | go_size)) (hb2.mono (by go_size))
  have K_1 : Blk w2 (w.heap.size) 30 #[.slice A n cap, .int .i64 im.mem, .int .i64 im.stacks] := Blk.next (by repeat' (first | with_reducible exact H_1.out | with_reducible exact K0_1 | (refine Blk.new' ?_ _ _; simp; done) | with_reducible refine Blk.alloc ?_ _ | with_reducible refine Blk.drewN ?_ _ | with_reducible refine Blk.drew ?_)) hb2; (try clear H_1); (try clear T_1); (try clear z_1); (try clear F_1); obtain ⟨z_1, T_1, F_1⟩ := K_1.open_; have H_1 := Lib.hid K_1; clear K_1
  clear hb2
  cases v with
  | false =>
    go_wp2_with fail
    refine (c_awake _ (HT.out.next (by repeat' (first | (with_reducible assumption) | (with_reducible exact Below.refl _ _) | (with_reducible refine Below.alloc ?_ ?_ _) | (with_reducible refine Bk.drewN_ ?_ _) | (with_reducible refine Below.drew ?_) | (with_reducible refine Below.setCell ?_ ?_ _) | go_size)))).mono ?_
    rintro e w3 ⟨rfl, hb3⟩
    have hB3 : Below w.heap.size w w3 := Below.trans (by repeat' (first | (with_reducible assumption) | (with_reducible exact Below.refl _ _) | (with_reducible refine Below.alloc ?_ ?_ _) | (with_reducible refine Bk.drewN_ ?_ _) | (with_reducible refine Below.drew ?_) | (with_reducible refine Below.setCell ?_ ?_ _) | go_size)) (hb3.mono (by go_size))
    go_wp2_with fail
    go_ret
    exact ⟨rfl, hB3⟩
  | true =>
    obtain ⟨h90, hck⟩ := small_check HV.out
    obtain ⟨hoi, hckI, hwI⟩ := opt_inv hck hw
    have hle : (optCode im.code).length ≤ im.code.length := by rw [optCode_length]; exact kept_length _
    have hckO := opt_valid hck hw
    have hwO : CodeWf (optCode im.code) := optCode_wf hw (by have := HN.out; omega)
    have hr1 : removed im = (im.code.length : Int) - (optCode im.code).length := removed_eq hck
    have hr2 : removed { im with code := invC im.code } = (im.code.length : Int) - (optCode im.code).length := by
      rw [removed_eq hckI]; simp only; rw [hoi, invC_length, invC_length]
    have hl90 : im.code.length ≤ 90 := by have := HN.out; omega
    have HOI := Lib.hid hoi; have HCKI := Lib.hid hckI; have HWI := Lib.hid hwI; have HCK := Lib.hid hck; have HLE := Lib.hid hle; have HCKO := Lib.hid hckO; have HWO := Lib.hid hwO; have HR1 := Lib.hid hr1; have HR2 := Lib.hid hr2
    clear hoi hckI hwI hck hle hckO hwO hr1 hr2
    go_wp2_with fail
    refine (c_Invert _ _ _ im HCK.out _ (HC.out.next (by repeat' (first | (with_reducible assumption) | (with_reducible exact Below.refl _ _) | (with_reducible refine Below.alloc ?_ ?_ _) | (with_reducible refine Bk.drewN_ ?_ _) | (with_reducible refine Below.drew ?_) | (with_reducible refine Below.setCell ?_ ?_ _) | go_size))) hw (HT.out.next (by repeat' (first | (with_reducible assumption) | (with_reducible exact Below.refl _ _) | (with_reducible refine Below.alloc ?_ ?_ _) | (with_reducible refine Bk.drewN_ ?_ _) | (with_reducible refine Below.drew ?_) | (with_reducible refine Below.setCell ?_ ?_ _) | go_size)))).mono ?_
    rintro e w3 ⟨A3, m3, c3, rfl, hm3, hR3, hb3⟩
    have hB3 : Below w.heap.size w w3 := Below.trans (by repeat' (first | (with_reducible assumption) | (with_reducible exact Below.refl _ _) | (with_reducible refine Below.alloc ?_ ?_ _) | (with_reducible refine Bk.drewN_ ?_ _) | (with_reducible refine Below.drew ?_) | (with_reducible refine Below.setCell ?_ ?_ _) | go_size)) (hb3.mono (by go_size))
    have K_1 : Blk w3 (w.heap.size) 30 #[.slice A n cap, .int .i64 im.mem, .int .i64 im.stacks] := Blk.next (by repeat' (first | with_reducible exact H_1.out | with_reducible exact K0_1 | (refine Blk.new' ?_ _ _; simp; done) | with_reducible refine Blk.alloc ?_ _ | with_reducible refine Blk.drewN ?_ _ | with_reducible refine Blk.drew ?_)) hb3; (try clear H_1); (try clear T_1); (try clear z_1); (try clear F_1); obtain ⟨z_1, T_1, F_1⟩ := K_1.open_; have H_1 := Lib.hid K_1; clear K_1
    have hm3' : m3 ≤ 90 := by omega
    have HM3 := Lib.hid hm3; have HR3 := Lib.hid hR3
    clear hb3 hm3 hR3
    go_wp2_with fail
    refine (c_OptimizeG _ _ _ { im with code := invC im.code } HCKI.out _ (HR3.out.next (by repeat' (first | (with_reducible assumption) | (with_reducible exact Below.refl _ _) | (with_reducible refine Below.alloc ?_ ?_ _) | (with_reducible refine Bk.drewN_ ?_ _) | (with_reducible refine Below.drew ?_) | (with_reducible refine Below.setCell ?_ ?_ _) | go_size))) HWI.out (HT.out.next (by repeat' (first | (with_reducible assumption) | (with_reducible exact Below.refl _ _) | (with_reducible refine Below.alloc ?_ ?_ _) | (with_reducible refine Bk.drewN_ ?_ _) | (with_reducible refine Below.drew ?_) | (with_reducible refine Below.setCell ?_ ?_ _) | go_size)))).mono ?_
    rintro e w4 ⟨A4, m4, c4, rfl, hm4, hR4, hb4⟩
    have hB4 : Below w.heap.size w w4 := Below.trans (by repeat' (first | (with_reducible assumption) | (with_reducible exact Below.refl _ _) | (with_reducible refine Below.alloc ?_ ?_ _) | (with_reducible refine Bk.drewN_ ?_ _) | (with_reducible refine Below.drew ?_) | (with_reducible refine Below.setCell ?_ ?_ _) | go_size)) (hb4.mono (by go_size))
    have K_1 : Blk w4 (w.heap.size) 30 #[.slice A n cap, .int .i64 im.mem, .int .i64 im.stacks] := Blk.next (by repeat' (first | with_reducible exact H_1.out | with_reducible exact K0_1 | (refine Blk.new' ?_ _ _; simp; done) | with_reducible refine Blk.alloc ?_ _ | with_reducible refine Blk.drewN ?_ _ | with_reducible refine Blk.drew ?_)) hb4; have K_3 : Blk w4 (w3.heap.size) 30 #[.slice A3 m3 c3, .int .i64 im.mem, .int .i64 im.stacks] := Blk.next (by repeat' (first | with_reducible exact H_3.out | with_reducible exact K0_3 | (refine Blk.new' ?_ _ _; simp; done) | with_reducible refine Blk.alloc ?_ _ | with_reducible refine Blk.drewN ?_ _ | with_reducible refine Blk.drew ?_)) hb4; (try clear H_1); (try clear T_1); (try clear z_1); (try clear F_1); (try clear H_3); (try clear T_3); (try clear z_3); (try clear F_3); obtain ⟨z_1, T_1, F_1⟩ := K_1.open_; have H_1 := Lib.hid K_1; clear K_1; obtain ⟨z_3, T_3, F_3⟩ := K_3.open_; have H_3 := Lib.hid K_3; clear K_3
    have hR3 := HR3.out.next (w' := w4) (Below.trans (by repeat' (first | (with_reducible assumption) | (with_reducible exact Below.refl _ _) | (with_reducible refine Below.alloc ?_ ?_ _) | (with_reducible refine Bk.drewN_ ?_ _) | (with_reducible refine Below.drew ?_) | (with_reducible refine Below.setCell ?_ ?_ _) | go_size)) (hb4.mono (by go_size)))
    simp only at hm4 hR4
    rw [HOI.out] at hm4 hR4
    rw [invC_length] at hm4
    have HM4 := Lib.hid hm4; have HR4 := Lib.hid hR4; clear HR3; have HR3 := Lib.hid hR3
    clear hb4 hm4 hR4 hR3
    go_wp2_with fail
    refine (c_OptimizeG _ _ _ im HCK.out _ (HC.out.next (by repeat' (first | (with_reducible assumption) | (with_reducible exact Below.refl _ _) | (with_reducible refine Below.alloc ?_ ?_ _) | (with_reducible refine Bk.drewN_ ?_ _) | (with_reducible refine Below.drew ?_) | (with_reducible refine Below.setCell ?_ ?_ _) | go_size))) hw (HT.out.next (by repeat' (first | (with_reducible assumption) | (with_reducible exact Below.refl _ _) | (with_reducible refine Below.alloc ?_ ?_ _) | (with_reducible refine Bk.drewN_ ?_ _) | (with_reducible refine Below.drew ?_) | (with_reducible refine Below.setCell ?_ ?_ _) | go_size)))).mono ?_
    rintro e w5 ⟨A5, m5, c5, rfl, hm5, hR5, hb5⟩
    have hB5 : Below w.heap.size w w5 := Below.trans (by repeat' (first | (with_reducible assumption) | (with_reducible exact Below.refl _ _) | (with_reducible refine Below.alloc ?_ ?_ _) | (with_reducible refine Bk.drewN_ ?_ _) | (with_reducible refine Below.drew ?_) | (with_reducible refine Below.setCell ?_ ?_ _) | go_size)) (hb5.mono (by go_size))
    have K_1 : Blk w5 (w.heap.size) 30 #[.slice A n cap, .int .i64 im.mem, .int .i64 im.stacks] := Blk.next (by repeat' (first | with_reducible exact H_1.out | with_reducible exact K0_1 | (refine Blk.new' ?_ _ _; simp; done) | with_reducible refine Blk.alloc ?_ _ | with_reducible refine Blk.drewN ?_ _ | with_reducible refine Blk.drew ?_)) hb5; have K_3 : Blk w5 (w3.heap.size) 30 #[.slice A3 m3 c3, .int .i64 im.mem, .int .i64 im.stacks] := Blk.next (by repeat' (first | with_reducible exact H_3.out | with_reducible exact K0_3 | (refine Blk.new' ?_ _ _; simp; done) | with_reducible refine Blk.alloc ?_ _ | with_reducible refine Blk.drewN ?_ _ | with_reducible refine Blk.drew ?_)) hb5; have K_4 : Blk w5 (w4.heap.size) 30 #[.slice A4 m4 c4, .int .i64 im.mem, .int .i64 im.stacks] := Blk.next (by repeat' (first | with_reducible exact H_4.out | with_reducible exact K0_4 | (refine Blk.new' ?_ _ _; simp; done) | with_reducible refine Blk.alloc ?_ _ | with_reducible refine Blk.drewN ?_ _ | with_reducible refine Blk.drew ?_)) hb5; (try clear H_1); (try clear T_1); (try clear z_1); (try clear F_1); (try clear H_3); (try clear T_3); (try clear z_3); (try clear F_3); (try clear H_4); (try clear T_4); (try clear z_4); (try clear F_4); obtain ⟨z_1, T_1, F_1⟩ := K_1.open_; have H_1 := Lib.hid K_1; clear K_1; obtain ⟨z_3, T_3, F_3⟩ := K_3.open_; have H_3 := Lib.hid K_3; clear K_3; obtain ⟨z_4, T_4, F_4⟩ := K_4.open_; have H_4 := Lib.hid K_4; clear K_4
    have hst : Below w4.heap.size w4 w5 := Below.trans (by repeat' (first | (with_reducible assumption) | (with_reducible exact Below.refl _ _) | (with_reducible refine Below.alloc ?_ ?_ _) | (with_reducible refine Bk.drewN_ ?_ _) | (with_reducible refine Below.drew ?_) | (with_reducible refine Below.setCell ?_ ?_ _) | go_size)) (hb5.mono (by go_size))
    have hR3 := HR3.out.next hst
    have hR4 := HR4.out.next hst
    have HM5 := Lib.hid hm5; have HR5 := Lib.hid hR5; clear HR3 HR4; have HR3 := Lib.hid hR3; have HR4 := Lib.hid hR4
    clear hb5 hm5 hR5 hR3 hR4 hst
    go_wp2_with fail
    refine (c_Invert _ _ _ { im with code := optCode im.code } HCKO.out _ (HR5.out.next (by repeat' (first | (with_reducible assumption) | (with_reducible exact Below.refl _ _) | (with_reducible refine Below.alloc ?_ ?_ _) | (with_reducible refine Bk.drewN_ ?_ _) | (with_reducible refine Below.drew ?_) | (with_reducible refine Below.setCell ?_ ?_ _) | go_size))) HWO.out (HT.out.next (by repeat' (first | (with_reducible assumption) | (with_reducible exact Below.refl _ _) | (with_reducible refine Below.alloc ?_ ?_ _) | (with_reducible refine Bk.drewN_ ?_ _) | (with_reducible refine Below.drew ?_) | (with_reducible refine Below.setCell ?_ ?_ _) | go_size)))).mono ?_
    rintro e w6 ⟨A6, m6, c6, rfl, hm6, hR6, hb6⟩
    have hB6 : Below w.heap.size w w6 := Below.trans (by repeat' (first | (with_reducible assumption) | (with_reducible exact Below.refl _ _) | (with_reducible refine Below.alloc ?_ ?_ _) | (with_reducible refine Bk.drewN_ ?_ _) | (with_reducible refine Below.drew ?_) | (with_reducible refine Below.setCell ?_ ?_ _) | go_size)) (hb6.mono (by go_size))
    have K_1 : Blk w6 (w.heap.size) 30 #[.slice A n cap, .int .i64 im.mem, .int .i64 im.stacks] := Blk.next (by repeat' (first | with_reducible exact H_1.out | with_reducible exact K0_1 | (refine Blk.new' ?_ _ _; simp; done) | with_reducible refine Blk.alloc ?_ _ | with_reducible refine Blk.drewN ?_ _ | with_reducible refine Blk.drew ?_)) hb6; have K_3 : Blk w6 (w3.heap.size) 30 #[.slice A3 m3 c3, .int .i64 im.mem, .int .i64 im.stacks] := Blk.next (by repeat' (first | with_reducible exact H_3.out | with_reducible exact K0_3 | (refine Blk.new' ?_ _ _; simp; done) | with_reducible refine Blk.alloc ?_ _ | with_reducible refine Blk.drewN ?_ _ | with_reducible refine Blk.drew ?_)) hb6; have K_4 : Blk w6 (w4.heap.size) 30 #[.slice A4 m4 c4, .int .i64 im.mem, .int .i64 im.stacks] := Blk.next (by repeat' (first | with_reducible exact H_4.out | with_reducible exact K0_4 | (refine Blk.new' ?_ _ _; simp; done) | with_reducible refine Blk.alloc ?_ _ | with_reducible refine Blk.drewN ?_ _ | with_reducible refine Blk.drew ?_)) hb6; (try clear H_1); (try clear T_1); (try clear z_1); (try clear F_1); (try clear H_3); (try clear T_3); (try clear z_3); (try clear F_3); (try clear H_4); (try clear T_4); (try clear z_4); (try clear F_4); obtain ⟨z_1, T_1, F_1⟩ := K_1.open_; have H_1 := Lib.hid K_1; clear K_1; obtain ⟨z_3, T_3, F_3⟩ := K_3.open_; have H_3 := Lib.hid K_3; clear K_3; obtain ⟨z_4, T_4, F_4⟩ := K_4.open_; have H_4 := Lib.hid K_4; clear K_4
    have hst : Below w5.heap.size w5 w6 := Below.trans (by repeat' (first | (with_reducible assumption) | (with_reducible exact Below.refl _ _) | (with_reducible refine Below.alloc ?_ ?_ _) | (with_reducible refine Bk.drewN_ ?_ _) | (with_reducible refine Below.drew ?_) | (with_reducible refine Below.setCell ?_ ?_ _) | go_size)) (hb6.mono (by go_size))
    have hR3 := HR3.out.next hst
    have hR4 := HR4.out.next hst
    simp only at hm6 hR6
    have hm4' : m4 ≤ 90 := by have := HM4.out; have := HLE.out; omega
    have HM6 := Lib.hid hm6; have HR6 := Lib.hid hR6; clear HR3 HR4; have HR3 := Lib.hid hR3; have HR4 := Lib.hid hR4
    clear hb6 hm6 hR6 hR3 hR4 hst
    go_wp2_with fail
    refine wp_region_grow (by kernel_rfl) (by kernel_rfl) ?_; intro W hW; have hneW : Nonempty (Grw W) := ⟨⟨W, Below.refl _ _⟩⟩; have HBz := Lib.hid (fun z => Below.next (show Below w.heap.size w W by (rw [hW]; exact (by repeat' (first | (with_reducible assumption) | (with_reducible exact Below.refl _ _) | (with_reducible refine Below.alloc ?_ ?_ _) | (with_reducible refine Bk.drewN_ ?_ _) | (with_reducible refine Below.drew ?_) | (with_reducible refine Below.setCell ?_ ?_ _) | go_size)))) (grow_below W z))
    have HBy := Lib.hid (fun z => Below.next (show Below w6.heap.size w6 W by rw [hW]; exact (by repeat' (first | (with_reducible assumption) | (with_reducible exact Below.refl _ _) | (with_reducible refine Below.alloc ?_ ?_ _) | (with_reducible refine Bk.drewN_ ?_ _) | (with_reducible refine Below.drew ?_) | (with_reducible refine Below.setCell ?_ ?_ _) | go_size))) (grow_below W z))
    have Z_1 := fun z => (Blk.next (w := W) (w' := grow W z) (show Blk W (w.heap.size) 30 #[.slice A n cap, .int .i64 im.mem, .int .i64 im.stacks] by rw [hW]; repeat' (first | with_reducible exact H_1.out | (refine Blk.new' ?_ _ _; simp; done) | with_reducible refine Blk.alloc ?_ _ | with_reducible refine Blk.drewN ?_ _ | with_reducible refine Blk.drew ?_)) (grow_below W z)).cell; have Z_3 := fun z => (Blk.next (w := W) (w' := grow W z) (show Blk W (w3.heap.size) 30 #[.slice A3 m3 c3, .int .i64 im.mem, .int .i64 im.stacks] by rw [hW]; repeat' (first | with_reducible exact H_3.out | (refine Blk.new' ?_ _ _; simp; done) | with_reducible refine Blk.alloc ?_ _ | with_reducible refine Blk.drewN ?_ _ | with_reducible refine Blk.drew ?_)) (grow_below W z)).cell; have Z_4 := fun z => (Blk.next (w := W) (w' := grow W z) (show Blk W (w4.heap.size) 30 #[.slice A4 m4 c4, .int .i64 im.mem, .int .i64 im.stacks] by rw [hW]; repeat' (first | with_reducible exact H_4.out | (refine Blk.new' ?_ _ _; simp; done) | with_reducible refine Blk.alloc ?_ _ | with_reducible refine Blk.drewN ?_ _ | with_reducible refine Blk.drew ?_)) (grow_below W z)).cell; have Z_9 := fun z => (Blk.next (w := W) (w' := grow W z) (show Blk W (w6.heap.size) 30 #[.slice A6 m6 c6, .int .i64 im.mem, .int .i64 im.stacks] by rw [hW]; repeat' (first | with_reducible exact H_9.out | (refine Blk.new' ?_ _ _; simp; done) | with_reducible refine Blk.alloc ?_ _ | with_reducible refine Blk.drewN ?_ _ | with_reducible refine Blk.drew ?_)) (grow_below W z)).cell; have HW := Lib.hid hW; clear hW
    repeat (go_big_quiet_step ((first | (go_at_call 18; with_reducible exact quiet_grow (c_codesV _ _ _ _ _ _ (invC (optCode im.code)) _ (by omega) (HR4.out.next (HBy.out _)) (HR6.out.next (HBy.out _)))) | (go_at_call 20; with_reducible exact quiet_grow (c_RemovedV _ _ _ { im with code := invC im.code } HR2.out _ (by omega) (HR3.out.next (HBy.out _)) HWI.out (HT.out.next (HBz.out _)))) | (go_at_call 20; with_reducible exact quiet_grow (c_RemovedV _ _ _ im HR1.out _ (by omega) (HC.out.next (HBz.out _)) hw (HT.out.next (HBz.out _)))))))
    clear Z_1 Z_3 Z_4 Z_9 HBy
    refine wpQuiet_nil ?_; rintro _ ⟨z, rfl⟩; have hb1 := grow_below W z; have hB1 := HBz.out z; generalize grow W z = w1 at hb1 hB1 ⊢; have hW := HW.out; clear HW HBz hneW; subst hW; obtain ⟨hc1, hf1⟩ := bcell hb1; obtain ⟨hcA1, hfA1⟩ := bcell hB1; have HB1 := Lib.hid hb1; clear hb1
    go_wp2_with fail
    go_ret
    exact ⟨ret_bool (by simp), by repeat' (first | (with_reducible assumption) | (with_reducible exact Below.refl _ _) | (with_reducible refine Below.alloc ?_ ?_ _) | (with_reducible refine Bk.drewN_ ?_ _) | (with_reducible refine Below.drew ?_) | (with_reducible refine Below.setCell ?_ ?_ _) | go_size)⟩
end Go.Proofs.YtfobnkgfbdmakaaDoor
