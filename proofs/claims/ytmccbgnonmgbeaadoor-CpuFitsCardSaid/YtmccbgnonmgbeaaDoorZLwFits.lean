/- The walk of the law CpuFits. -/
import Derived.Test.YtmccbgnonmgbeaaDoorZLwNa
import Derived.Test.YtmccbgnonmgbeaaDoorZFitsJ
import Derived.Test.YtmccbgnonmgbeaaDoorZLen
set_option linter.unusedVariables false
set_option linter.unusedSimpArgs false
namespace Go.Proofs.YtmccbgnonmgbeaaDoor
open Go.RowKit Bk
theorem c_StepNil {w : World} {A : Option Addr} {n cap : Nat} {im : Img} :
    Calls Tryd.prog 16 #[.agg #[.slice A n cap, .int .i64 im.mem, .int .i64 im.stacks], .pointer none] w fun e w' => e = .returned (.int .i64 1) ∧ Below w.heap.size w w' := by
  go_enter Tryd.func16, Tryd.ntmps16
  go_wp2_with fail
  go_ret
  exact ⟨rfl, by repeat' (first | (with_reducible assumption) | (with_reducible exact Below.refl _ _) | (with_reducible refine Below.alloc ?_ ?_ _) | (with_reducible refine Bk.drewN_ ?_ _) | (with_reducible refine Below.drew ?_) | (with_reducible refine Below.setCell ?_ ?_ _) | go_size)⟩
theorem c_BackNil {w : World} {A : Option Addr} {n cap : Nat} {im : Img} :
    Calls Tryd.prog 19 #[.agg #[.slice A n cap, .int .i64 im.mem, .int .i64 im.stacks], .pointer none] w fun e w' => e = .returned (.int .i64 1) ∧ Below w.heap.size w w' := by
  go_enter Tryd.func19, Tryd.ntmps19
  go_wp2_with fail
  go_ret
  exact ⟨rfl, by repeat' (first | (with_reducible assumption) | (with_reducible exact Below.refl _ _) | (with_reducible refine Below.alloc ?_ ?_ _) | (with_reducible refine Bk.drewN_ ?_ _) | (with_reducible refine Below.drew ?_) | (with_reducible refine Below.setCell ?_ ?_ _) | go_size)⟩
set_option maxRecDepth 100000 in
/-- cpu.Step on a machine that does not fit. -/
theorem c_StepBad {w : World} {D : Nat → Prop} {b off : Nat} {M : Mach} {vm vs vc vi vo : Value} {sv : List Value} (h : MRd w D b off M vm vs vc vi vo sv) (A : Option Addr) (n cap : Nat) (im : Img) (hn : n = im.code.length) (hn6 : n ≤ 65536) (hms : M.s.length ≤ 1000000) (hcl : M.calls.length ≤ 1000000) (hv : fitsB im M = false) :
    Calls Tryd.prog 16 #[.agg #[.slice A n cap, .int .i64 im.mem, .int .i64 im.stacks], .pointer (some ⟨b, off, none⟩)] w fun e w' => e = .returned (.int .i64 20) ∧ Below w.heap.size w w' := by
  have HM := Lib.hid h; have HV := Lib.hid hv; have HN := Lib.hid hn
  clear h hv hn
  go_enter Tryd.func16, Tryd.ntmps16
  go_wp2_with fail
  refine (c_fitsG (HM.out.next (by repeat' (first | (with_reducible assumption) | (with_reducible exact Below.refl _ _) | (with_reducible refine Below.alloc ?_ ?_ _) | (with_reducible refine Bk.drewN_ ?_ _) | (with_reducible refine Below.drew ?_) | (with_reducible refine Below.setCell ?_ ?_ _) | go_size))) A n cap im HN.out hn6 hms hcl HV.out).mono ?_
  rintro e w2 ⟨rfl, hb2⟩
  have hB_w2 : Below w.heap.size w w2 := Below.next (by repeat' (first | (with_reducible assumption) | (with_reducible exact Below.refl _ _) | (with_reducible refine Below.alloc ?_ ?_ _) | (with_reducible refine Bk.drewN_ ?_ _) | (with_reducible refine Below.drew ?_) | (with_reducible refine Below.setCell ?_ ?_ _) | go_size)) hb2
  clear hb2
  go_wp2_with fail
  go_ret
  exact ⟨rfl, hB_w2⟩
set_option maxRecDepth 100000 in
/-- cpu.Back on a machine that does not fit. -/
theorem c_BackBad {w : World} {D : Nat → Prop} {b off : Nat} {M : Mach} {vm vs vc vi vo : Value} {sv : List Value} (h : MRd w D b off M vm vs vc vi vo sv) (A : Option Addr) (n cap : Nat) (im : Img) (hn : n = im.code.length) (hn6 : n ≤ 65536) (hms : M.s.length ≤ 1000000) (hcl : M.calls.length ≤ 1000000) (hv : fitsB im M = false) :
    Calls Tryd.prog 19 #[.agg #[.slice A n cap, .int .i64 im.mem, .int .i64 im.stacks], .pointer (some ⟨b, off, none⟩)] w fun e w' => e = .returned (.int .i64 20) ∧ Below w.heap.size w w' := by
  have HM := Lib.hid h; have HV := Lib.hid hv; have HN := Lib.hid hn
  clear h hv hn
  go_enter Tryd.func19, Tryd.ntmps19
  go_wp2_with fail
  refine (c_fitsG (HM.out.next (by repeat' (first | (with_reducible assumption) | (with_reducible exact Below.refl _ _) | (with_reducible refine Below.alloc ?_ ?_ _) | (with_reducible refine Bk.drewN_ ?_ _) | (with_reducible refine Below.drew ?_) | (with_reducible refine Below.setCell ?_ ?_ _) | go_size))) A n cap im HN.out hn6 hms hcl HV.out).mono ?_
  rintro e w2 ⟨rfl, hb2⟩
  have hB_w2 : Below w.heap.size w w2 := Below.next (by repeat' (first | (with_reducible assumption) | (with_reducible exact Below.refl _ _) | (with_reducible refine Below.alloc ?_ ?_ _) | (with_reducible refine Bk.drewN_ ?_ _) | (with_reducible refine Below.drew ?_) | (with_reducible refine Below.setCell ?_ ?_ _) | go_size)) hb2
  clear hb2
  go_wp2_with fail
  go_ret
  exact ⟨rfl, hB_w2⟩
set_option maxRecDepth 100000 in
set_option maxHeartbeats 8000000 in
theorem c_lawCpuFits (A : Option Addr) (n cap : Nat) (im : Img) (M : Mach) (vm vs vc vi vo : Value) (sv : List Value) (w : World) (hC : Rd w (· < w.heap.size) 5 A n (codeCells im.code)) (hw : CodeWf im.code) (hL : MLs w (· < w.heap.size) M vm vs vc vi vo sv) (hwf : MWf M) (hl : ∀ l ∈ M.s, l.length ≤ 281474976710656) (hTab : TableAt w) :
    Calls Tryd.prog 11 #[.agg #[.slice A n cap, .int .i64 im.mem, .int .i64 im.stacks], .agg (mcells M vm vs vc vi vo).toArray] w fun e w' => e = .returned (.bool true) ∧ Below w.heap.size w w' := by
  have hn : n = im.code.length := by have := hC.1; rw [codeCells_length] at this; omega
  obtain ⟨g, hg⟩ : ∃ g, greatB im M = g := ⟨_, rfl⟩
  obtain ⟨u, hu⟩ : ∃ u, im.valid = u := ⟨_, rfl⟩
  obtain ⟨f, hf⟩ : ∃ f, fitsB im M = f := ⟨_, rfl⟩
  have HC := Lib.hid hC; have HT := Lib.hid hTab; have HL := Lib.hid hL; have HLL := Lib.hid hl; have HN := Lib.hid hn; have HG := Lib.hid hg; have HU := Lib.hid hu; have HF := Lib.hid hf; have HWF := Lib.hid hwf
  clear hC hTab hL hl hn hg hu hf hwf
  go_enter Tryd.func11, Tryd.ntmps11
  go_upto_region 1 with fail
  refine wp_nameY ?_
  intro w1 hw1
  have hB_w1 : Below w.heap.size w w1 := by rw [hw1]; exact (by repeat' (first | (with_reducible assumption) | (with_reducible exact Below.refl _ _) | (with_reducible refine Below.alloc ?_ ?_ _) | (with_reducible refine Bk.drewN_ ?_ _) | (with_reducible refine Below.drew ?_) | (with_reducible refine Below.setCell ?_ ?_ _) | go_size))
  have K_1 : Blk w1 w.heap.size 24 #[.slice A n cap, .int .i64 im.mem, .int .i64 im.stacks] := by rw [hw1]; exact (by repeat' (first | with_reducible assumption | (refine Blk.new' ?_ _ _; simp; done) | refine Blk.alloc ?_ _ | refine Blk.drewN ?_ _ | refine Blk.drew ?_))
  have KM : Blk w1 (w.heap.size + 1) 30 (mcells M vm vs vc vi vo).toArray := by rw [hw1]; exact (by repeat' (first | with_reducible assumption | (refine Blk.new' ?_ _ _; simp; done) | refine Blk.alloc ?_ _ | refine Blk.drewN ?_ _ | refine Blk.drew ?_))
  have HM := Lib.hid ((HL.out.next hB_w1).at_ KM)
  clear hw1 KM
  obtain ⟨z_1, T_1, F_1⟩ := K_1.open_; have H_1 := Lib.hid K_1; clear K_1
  go_wp2_with fail
  refine (c_awake24 _ (HT.out.next hB_w1)).mono ?_
  rintro e w2 ⟨rfl, hb2⟩
  have hB_w2 := hB_w1.next hb2
  replace HM := Lib.hid (HM.out.next hb2)
  have K_1 : Blk w2 (w.heap.size) 24 #[.slice A n cap, .int .i64 im.mem, .int .i64 im.stacks] := Blk.next (by repeat' (first | with_reducible exact H_1.out | with_reducible exact K0_1 | (refine Blk.new' ?_ _ _; simp; done) | with_reducible refine Blk.alloc ?_ _ | with_reducible refine Blk.drewN ?_ _ | with_reducible refine Blk.drew ?_)) hb2; (try clear H_1); (try clear T_1); (try clear z_1); (try clear F_1); obtain ⟨z_1, T_1, F_1⟩ := K_1.open_; have H_1 := Lib.hid K_1; clear K_1
  clear hb2
  go_wp2_with (refine wpList_loadG 30 rfl rfl rfl (load_mach HM.out) ?_; simp only [Act.put, List.setIfInBounds_toArray, List.set_cons_succ, List.set_cons_zero])
  refine (c_great (HL.out.next hB_w2) A n cap im HN.out HLL.out HG.out).mono ?_
  rintro e w3 ⟨rfl, hb3⟩
  have hB_w3 := hB_w2.next hb3
  replace HM := Lib.hid (HM.out.next hb3)
  have K_1 : Blk w3 (w.heap.size) 24 #[.slice A n cap, .int .i64 im.mem, .int .i64 im.stacks] := Blk.next (by repeat' (first | with_reducible exact H_1.out | with_reducible exact K0_1 | (refine Blk.new' ?_ _ _; simp; done) | with_reducible refine Blk.alloc ?_ _ | with_reducible refine Blk.drewN ?_ _ | with_reducible refine Blk.drew ?_)) hb3; (try clear H_1); (try clear T_1); (try clear z_1); (try clear F_1); obtain ⟨z_1, T_1, F_1⟩ := K_1.open_; have H_1 := Lib.hid K_1; clear K_1
  clear hb3
  cases g with
  | true =>
    go_wp2_with fail
    refine (c_awake24 _ (HT.out.next hB_w3)).mono ?_
    rintro e wz ⟨rfl, hbz⟩
    have hB_wz := hB_w3.next hbz
    go_wp2_with fail
    go_ret
    exact ⟨rfl, hB_wz⟩
  | false =>
  have hgg := HG.out
  unfold greatB at hgg
  rw [decide_eq_false_iff_not] at hgg
  have hn6 : n ≤ 65536 := by have := HN.out; omega
  have hms : M.s.length ≤ 1000000 := by omega
  have hcl : M.calls.length ≤ 1000000 := by omega
  have hbd0 : M.m.length ≤ 100 ∧ M.inp.length ≤ 5000 ∧ M.out.length ≤ 5000 ∧ M.s.length ≤ 100 ∧ M.calls.length ≤ 200 ∧ sumLen M.s ≤ 5000 := by omega
  have HBD0 := Lib.hid hbd0
  clear hgg hbd0
  go_wp2_with fail
  refine (c_imValid' A n cap im HU.out _ (HC.out.next hB_w3) hw (HT.out.next hB_w3)).mono ?_
  rintro e w4 ⟨rfl, hb4⟩
  have hB_w4 := hB_w3.next hb4
  replace HM := Lib.hid (HM.out.next hb4)
  have K_1 : Blk w4 (w.heap.size) 24 #[.slice A n cap, .int .i64 im.mem, .int .i64 im.stacks] := Blk.next (by repeat' (first | with_reducible exact H_1.out | with_reducible exact K0_1 | (refine Blk.new' ?_ _ _; simp; done) | with_reducible refine Blk.alloc ?_ _ | with_reducible refine Blk.drewN ?_ _ | with_reducible refine Blk.drew ?_)) hb4; (try clear H_1); (try clear T_1); (try clear z_1); (try clear F_1); obtain ⟨z_1, T_1, F_1⟩ := K_1.open_; have H_1 := Lib.hid K_1; clear K_1
  clear hb4
  cases u with
  | false =>
    go_wp2_with fail
    refine (c_awake24 _ (HT.out.next hB_w4)).mono ?_
    rintro e wz ⟨rfl, hbz⟩
    have hB_wz := hB_w4.next hbz
    go_wp2_with fail
    go_ret
    exact ⟨rfl, hB_wz⟩
  | true =>
  go_wp2_with (refine wpList_loadG 30 rfl rfl rfl (load_mach HM.out) ?_; simp only [Act.put, List.setIfInBounds_toArray, List.set_cons_succ, List.set_cons_zero])
  refine (c_rfits (HL.out.next hB_w4) A n cap im HN.out hn6 hms HF.out).mono ?_
  rintro e w5 ⟨rfl, hb5⟩
  have hB_w5 := hB_w4.next hb5
  replace HM := Lib.hid (HM.out.next hb5)
  have K_1 : Blk w5 (w.heap.size) 24 #[.slice A n cap, .int .i64 im.mem, .int .i64 im.stacks] := Blk.next (by repeat' (first | with_reducible exact H_1.out | with_reducible exact K0_1 | (refine Blk.new' ?_ _ _; simp; done) | with_reducible refine Blk.alloc ?_ _ | with_reducible refine Blk.drewN ?_ _ | with_reducible refine Blk.drew ?_)) hb5; (try clear H_1); (try clear T_1); (try clear z_1); (try clear F_1); obtain ⟨z_1, T_1, F_1⟩ := K_1.open_; have H_1 := Lib.hid K_1; clear K_1
  clear hb5
  have hln : MLn M := ⟨by have := HBD0.out; omega, by have := HBD0.out; omega, by have := HBD0.out; omega, by have := HBD0.out; omega, by have := HBD0.out; omega, fun l hl => by have := le_sumLen hl; have := HBD0.out; omega⟩
  have HLN := Lib.hid hln
  clear hln
  go_wp2_with fail
  refine (c_CloneL HM.out HLN.out).mono ?_
  rintro e w6 ⟨ba, gma, gsa, rfl, r1, r2, r3, hcl6, hb6⟩
  obtain ⟨vma, vsa, vca, via, voa, sva, hA⟩ := MAt.new hcl6 r2 r3
  have HA := Lib.hid hA
  have hB_w6 := hB_w5.next hb6
  replace HM := Lib.hid (HM.out.next hb6)
  have K_1 : Blk w6 (w.heap.size) 24 #[.slice A n cap, .int .i64 im.mem, .int .i64 im.stacks] := Blk.next (by repeat' (first | with_reducible exact H_1.out | with_reducible exact K0_1 | (refine Blk.new' ?_ _ _; simp; done) | with_reducible refine Blk.alloc ?_ _ | with_reducible refine Blk.drewN ?_ _ | with_reducible refine Blk.drew ?_)) hb6; (try clear H_1); (try clear T_1); (try clear z_1); (try clear F_1); obtain ⟨z_1, T_1, F_1⟩ := K_1.open_; have H_1 := Lib.hid K_1; clear K_1
  clear hb6
  clear hA hcl6
  have hfv : (im.valid && fitsB im M) = f := by rw [HU.out, HF.out]; rfl
  have HFV := Lib.hid hfv; clear hfv
  cases f with
  | true =>
    go_wp2_with fail
    refine (c_FitsG HA.out A n cap im HN.out hn6 hms hcl (HC.out.next hB_w6) hw (HT.out.next hB_w6) HFV.out).mono ?_
    rintro e w7 ⟨rfl, hb7⟩
    have hB_w7 := hB_w6.next hb7
    replace HM := Lib.hid (HM.out.next hb7); replace HA := Lib.hid (HA.out.next hb7)
    have K_1 : Blk w7 (w.heap.size) 24 #[.slice A n cap, .int .i64 im.mem, .int .i64 im.stacks] := Blk.next (by repeat' (first | with_reducible exact H_1.out | with_reducible exact K0_1 | (refine Blk.new' ?_ _ _; simp; done) | with_reducible refine Blk.alloc ?_ _ | with_reducible refine Blk.drewN ?_ _ | with_reducible refine Blk.drew ?_)) hb7; (try clear H_1); (try clear T_1); (try clear z_1); (try clear F_1); obtain ⟨z_1, T_1, F_1⟩ := K_1.open_; have H_1 := Lib.hid K_1; clear K_1
    clear hb7
    go_wp2_with fail
    refine (c_FitsNil (im := im)).mono ?_
    rintro e w8 ⟨rfl, hb8⟩
    have hB_w8 := hB_w7.next hb8
    replace HM := Lib.hid (HM.out.next hb8); replace HA := Lib.hid (HA.out.next hb8)
    have K_1 : Blk w8 (w.heap.size) 24 #[.slice A n cap, .int .i64 im.mem, .int .i64 im.stacks] := Blk.next (by repeat' (first | with_reducible exact H_1.out | with_reducible exact K0_1 | (refine Blk.new' ?_ _ _; simp; done) | with_reducible refine Blk.alloc ?_ _ | with_reducible refine Blk.drewN ?_ _ | with_reducible refine Blk.drew ?_)) hb8; (try clear H_1); (try clear T_1); (try clear z_1); (try clear F_1); obtain ⟨z_1, T_1, F_1⟩ := K_1.open_; have H_1 := Lib.hid K_1; clear K_1
    clear hb8
    go_wp2_with fail
    refine (c_StepNil (im := im)).mono ?_
    rintro e w9 ⟨rfl, hb9⟩
    have hB_w9 := hB_w8.next hb9
    replace HM := Lib.hid (HM.out.next hb9); replace HA := Lib.hid (HA.out.next hb9)
    have K_1 : Blk w9 (w.heap.size) 24 #[.slice A n cap, .int .i64 im.mem, .int .i64 im.stacks] := Blk.next (by repeat' (first | with_reducible exact H_1.out | with_reducible exact K0_1 | (refine Blk.new' ?_ _ _; simp; done) | with_reducible refine Blk.alloc ?_ _ | with_reducible refine Blk.drewN ?_ _ | with_reducible refine Blk.drew ?_)) hb9; (try clear H_1); (try clear T_1); (try clear z_1); (try clear F_1); obtain ⟨z_1, T_1, F_1⟩ := K_1.open_; have H_1 := Lib.hid K_1; clear K_1
    clear hb9
    go_wp2_with fail
    refine (c_BackNil (im := im)).mono ?_
    rintro e w10 ⟨rfl, hb10⟩
    have hB_w10 := hB_w9.next hb10
    replace HM := Lib.hid (HM.out.next hb10); replace HA := Lib.hid (HA.out.next hb10)
    have K_1 : Blk w10 (w.heap.size) 24 #[.slice A n cap, .int .i64 im.mem, .int .i64 im.stacks] := Blk.next (by repeat' (first | with_reducible exact H_1.out | with_reducible exact K0_1 | (refine Blk.new' ?_ _ _; simp; done) | with_reducible refine Blk.alloc ?_ _ | with_reducible refine Blk.drewN ?_ _ | with_reducible refine Blk.drew ?_)) hb10; (try clear H_1); (try clear T_1); (try clear z_1); (try clear F_1); obtain ⟨z_1, T_1, F_1⟩ := K_1.open_; have H_1 := Lib.hid K_1; clear K_1
    clear hb10
    go_wp2_with fail
    go_quiet (fail)
    go_wp2_with fail
    go_ret
    exact ⟨rfl, by repeat' (first | (with_reducible assumption) | (with_reducible exact Below.refl _ _) | (with_reducible refine Below.alloc ?_ ?_ _) | (with_reducible refine Bk.drewN_ ?_ _) | (with_reducible refine Below.drew ?_) | (with_reducible refine Below.setCell ?_ ?_ _) | go_size)⟩
  | false =>
    go_wp2_with fail
    refine (c_FitsG HA.out A n cap im HN.out hn6 hms hcl (HC.out.next hB_w6) hw (HT.out.next hB_w6) HFV.out).mono ?_
    rintro e w7 ⟨rfl, hb7⟩
    have hB_w7 := hB_w6.next hb7
    replace HM := Lib.hid (HM.out.next hb7); replace HA := Lib.hid (HA.out.next hb7)
    have K_1 : Blk w7 (w.heap.size) 24 #[.slice A n cap, .int .i64 im.mem, .int .i64 im.stacks] := Blk.next (by repeat' (first | with_reducible exact H_1.out | with_reducible exact K0_1 | (refine Blk.new' ?_ _ _; simp; done) | with_reducible refine Blk.alloc ?_ _ | with_reducible refine Blk.drewN ?_ _ | with_reducible refine Blk.drew ?_)) hb7; (try clear H_1); (try clear T_1); (try clear z_1); (try clear F_1); obtain ⟨z_1, T_1, F_1⟩ := K_1.open_; have H_1 := Lib.hid K_1; clear K_1
    clear hb7
    go_wp2_with fail
    refine (c_FitsNil (im := im)).mono ?_
    rintro e w8 ⟨rfl, hb8⟩
    have hB_w8 := hB_w7.next hb8
    replace HM := Lib.hid (HM.out.next hb8); replace HA := Lib.hid (HA.out.next hb8)
    have K_1 : Blk w8 (w.heap.size) 24 #[.slice A n cap, .int .i64 im.mem, .int .i64 im.stacks] := Blk.next (by repeat' (first | with_reducible exact H_1.out | with_reducible exact K0_1 | (refine Blk.new' ?_ _ _; simp; done) | with_reducible refine Blk.alloc ?_ _ | with_reducible refine Blk.drewN ?_ _ | with_reducible refine Blk.drew ?_)) hb8; (try clear H_1); (try clear T_1); (try clear z_1); (try clear F_1); obtain ⟨z_1, T_1, F_1⟩ := K_1.open_; have H_1 := Lib.hid K_1; clear K_1
    clear hb8
    go_wp2_with fail
    refine (c_StepNil (im := im)).mono ?_
    rintro e w9 ⟨rfl, hb9⟩
    have hB_w9 := hB_w8.next hb9
    replace HM := Lib.hid (HM.out.next hb9); replace HA := Lib.hid (HA.out.next hb9)
    have K_1 : Blk w9 (w.heap.size) 24 #[.slice A n cap, .int .i64 im.mem, .int .i64 im.stacks] := Blk.next (by repeat' (first | with_reducible exact H_1.out | with_reducible exact K0_1 | (refine Blk.new' ?_ _ _; simp; done) | with_reducible refine Blk.alloc ?_ _ | with_reducible refine Blk.drewN ?_ _ | with_reducible refine Blk.drew ?_)) hb9; (try clear H_1); (try clear T_1); (try clear z_1); (try clear F_1); obtain ⟨z_1, T_1, F_1⟩ := K_1.open_; have H_1 := Lib.hid K_1; clear K_1
    clear hb9
    go_wp2_with fail
    refine (c_BackNil (im := im)).mono ?_
    rintro e w10 ⟨rfl, hb10⟩
    have hB_w10 := hB_w9.next hb10
    replace HM := Lib.hid (HM.out.next hb10); replace HA := Lib.hid (HA.out.next hb10)
    have K_1 : Blk w10 (w.heap.size) 24 #[.slice A n cap, .int .i64 im.mem, .int .i64 im.stacks] := Blk.next (by repeat' (first | with_reducible exact H_1.out | with_reducible exact K0_1 | (refine Blk.new' ?_ _ _; simp; done) | with_reducible refine Blk.alloc ?_ _ | with_reducible refine Blk.drewN ?_ _ | with_reducible refine Blk.drew ?_)) hb10; (try clear H_1); (try clear T_1); (try clear z_1); (try clear F_1); obtain ⟨z_1, T_1, F_1⟩ := K_1.open_; have H_1 := Lib.hid K_1; clear K_1
    clear hb10
    go_wp2_with fail
    refine wp_region_grow (by kernel_rfl) (by kernel_rfl) ?_; intro W hW; have hneW : Nonempty (Grw W) := ⟨⟨W, Below.refl _ _⟩⟩; have HBz := Lib.hid (fun z => Below.next (show Below w.heap.size w W by (rw [hW]; exact (by repeat' (first | (with_reducible assumption) | (with_reducible exact Below.refl _ _) | (with_reducible refine Below.alloc ?_ ?_ _) | (with_reducible refine Bk.drewN_ ?_ _) | (with_reducible refine Below.drew ?_) | (with_reducible refine Below.setCell ?_ ?_ _) | go_size)))) (grow_below W z))
    have zA := fun z => HA.out.next (w' := grow W z) (by rw [← hW]; exact grow_below W z)
    have zM := fun z => HM.out.next (w' := grow W z) (by rw [← hW]; exact grow_below W z)
    have lA := fun z => load_mach (zA z); have lM := fun z => load_mach (zM z)
    have ZA := Lib.hid zA; have ZM := Lib.hid zM
    have Z_1 := fun z => (Blk.next (w := W) (w' := grow W z) (show Blk W (w.heap.size) 24 #[.slice A n cap, .int .i64 im.mem, .int .i64 im.stacks] by rw [hW]; repeat' (first | with_reducible exact H_1.out | (refine Blk.new' ?_ _ _; simp; done) | with_reducible refine Blk.alloc ?_ _ | with_reducible refine Blk.drewN ?_ _ | with_reducible refine Blk.drew ?_)) (grow_below W z)).cell; have HW := Lib.hid hW; clear hW
    have LA := Lib.hid lA; have LM := Lib.hid lM
    clear lA lM zA zM
    repeat (first | (go_big_quiet_want; refine quiet_loadG 30 rfl rfl (LA.out) ?_; go_big_quiet_on; simp only [Act.put, List.setIfInBounds_toArray, List.set_cons_succ, List.set_cons_zero]) | (go_big_quiet_want; refine quiet_loadG 30 rfl rfl (LM.out) ?_; go_big_quiet_on; simp only [Act.put, List.setIfInBounds_toArray, List.set_cons_succ, List.set_cons_zero]) | go_big_quiet_step ((first | (go_at_call 16; with_reducible exact quiet_grow (c_StepBad (ZA.out _) A n cap im HN.out hn6 hms hcl HF.out)) | (go_at_call 19; with_reducible exact quiet_grow (c_BackBad (ZA.out _) A n cap im HN.out hn6 hms hcl HF.out)) | (go_at_call 17; with_reducible exact quiet_grow (c_REqL (ZA.out _).mls (ZM.out _).mls HLN.out)))))
    clear Z_1
    refine wpQuiet_nil ?_
    rintro _ ⟨z, rfl⟩
    have hb := grow_below W z
    generalize grow W z = wz at hb ⊢
    rw [HW.out] at hb
    have hBz := hB_w10.next hb
    clear HW HBz hneW
    go_wp2_with fail
    go_ret
    exact ⟨rfl, hBz⟩
end Go.Proofs.YtmccbgnonmgbeaaDoor
