/- The walk of the law BreakpointNone. -/
import Derived.Test.YtiejkfomadaakaaDoorBpZ
import Derived.Test.YtiejkfomadaakaaDoorZBpM
set_option linter.unusedVariables false
set_option linter.unusedSimpArgs false
set_option maxRecDepth 100000
namespace Go.Proofs.YtiejkfomadaakaaDoor
open Go.RowKit Bk
set_option maxHeartbeats 16000000 in
theorem c_lawBreakpointNone (A : Option Addr) (n cap : Nat) (im : Img) (M : Mach) (vm vs vc vi vo : Value) (sv : List Value) (w : World) (hC : Rd w (· < w.heap.size) 5 A n (codeCells im.code)) (hw : CodeWf im.code) (hL : MLs w (· < w.heap.size) M vm vs vc vi vo sv) (hwf : MWf M) (hl : ∀ l ∈ M.s, l.length ≤ 17592186043904) (hcl : M.calls.length ≤ 17592186043904) (hTab : TableAt w) (most : Int) (hmo : I64 most) :
    Calls Tryd.prog 8 #[.agg #[.slice A n cap, .int .i64 im.mem, .int .i64 im.stacks], .agg (mcells M vm vs vc vi vo).toArray, .int .i64 most] w fun e w' => e = .returned (.bool true) ∧ Below w.heap.size w w' := by
  obtain ⟨sm, hsm⟩ : ∃ sm, sm34 im M = sm := ⟨_, rfl⟩
  have HSM := Lib.hid hsm; clear hsm
  have hmo9 := hmo
  unfold I64 at hmo
  obtain ⟨ck, hck⟩ : ∃ ck, im.check.2 = ck := ⟨_, rfl⟩
  obtain ⟨ff, hff⟩ : ∃ ff, fitsB im M = ff := ⟨_, rfl⟩
  have HCK := Lib.hid hck; have HFF := Lib.hid hff
  clear hck hff
  have hnn : n = im.code.length := by have := hC.1; rw [codeCells_length] at this; omega
  have HC := Lib.hid hC; have HT := Lib.hid hTab; have HL := Lib.hid hL; have HN := Lib.hid hnn; have HWF := Lib.hid hwf; have HLL := Lib.hid hl; have HCL := Lib.hid hcl
  clear hC hTab hL hnn hwf hl hcl
  go_enter Tryd.func8, Tryd.ntmps8
  go_upto_region 1 with fail
  refine wp_nameY ?_
  intro w1 hw1
  have hB_w1 : Below w.heap.size w w1 := by rw [hw1]; exact (by repeat' (first | (with_reducible assumption) | (with_reducible exact Below.refl _ _) | (with_reducible refine Below.alloc ?_ ?_ _) | (with_reducible refine Bk.drewN_ ?_ _) | (with_reducible refine Below.drew ?_) | (with_reducible refine Below.setCell ?_ ?_ _) | go_size))
  have K_1 : Blk w1 w.heap.size 24 #[.slice A n cap, .int .i64 im.mem, .int .i64 im.stacks] := by rw [hw1]; exact (by repeat' (first | with_reducible assumption | (refine Blk.new' ?_ _ _; simp; done) | refine Blk.alloc ?_ _ | refine Blk.drewN ?_ _ | refine Blk.drew ?_))
  have KM : Blk w1 (w.heap.size + 1) 30 (mcells M vm vs vc vi vo).toArray := by rw [hw1]; exact (by repeat' (first | with_reducible assumption | (refine Blk.new' ?_ _ _; simp; done) | refine Blk.alloc ?_ _ | refine Blk.drewN ?_ _ | refine Blk.drew ?_))
  have HM := Lib.hid ((HL.out.next hB_w1).at_ KM)
  have zz : w1.heap.size = w.heap.size + 2 := by rw [hw1]; simp
  clear hw1 KM
  obtain ⟨z_1, T_1, F_1⟩ := K_1.open_; have H_1 := Lib.hid K_1; clear K_1
  go_wp2_with fail
  refine (c_awake34 _ (HT.out.next hB_w1)).mono ?_
  rintro e w2 ⟨rfl, hb2⟩
  have hB_w2 := hB_w1.next hb2
  replace HM := Lib.hid (HM.out.next hb2)
  have K_1 : Blk w2 (w.heap.size) 24 #[.slice A n cap, .int .i64 im.mem, .int .i64 im.stacks] := Blk.next (by repeat' (first | with_reducible exact H_1.out | with_reducible exact K0_1 | (refine Blk.new' ?_ _ _; simp; done) | with_reducible refine Blk.alloc ?_ _ | with_reducible refine Blk.drewN ?_ _ | with_reducible refine Blk.drew ?_)) hb2; (try clear H_1); (try clear T_1); (try clear z_1); (try clear F_1); obtain ⟨z_1, T_1, F_1⟩ := K_1.open_; have H_1 := Lib.hid K_1; clear K_1
  have z2 := hb2.size
  clear hb2
  go_wp2_with (refine wpList_loadG 30 rfl rfl rfl (load_mach HM.out) ?_; simp only [Act.put, List.setIfInBounds_toArray, List.set_cons_succ, List.set_cons_zero])
  cases sm with
  | false =>
    refine (c_small0 (HL.out.next hB_w2) A n cap im HN.out HSM.out).mono ?_
    rintro e w3 ⟨rfl, hb3⟩
    have hB_w3 := hB_w2.next hb3
    clear hb3
    go_wp2_with fail
    go_ret
    exact ⟨rfl, hB_w3⟩
  | true =>
    refine (c_small1 (HL.out.next hB_w2) A n cap im HN.out HSM.out).mono ?_
    rintro e w3 ⟨rfl, hb3⟩
    have hB_w3 := hB_w2.next hb3
    replace HM := Lib.hid (HM.out.next hb3)
    have K_1 : Blk w3 (w.heap.size) 24 #[.slice A n cap, .int .i64 im.mem, .int .i64 im.stacks] := Blk.next (by repeat' (first | with_reducible exact H_1.out | with_reducible exact K0_1 | (refine Blk.new' ?_ _ _; simp; done) | with_reducible refine Blk.alloc ?_ _ | with_reducible refine Blk.drewN ?_ _ | with_reducible refine Blk.drew ?_)) hb3; (try clear H_1); (try clear T_1); (try clear z_1); (try clear F_1); obtain ⟨z_1, T_1, F_1⟩ := K_1.open_; have H_1 := Lib.hid K_1; clear K_1
    have z3 := hb3.size
    have hms : M.s.length ≤ 1000000 := by have := of_decide_eq_true HSM.out; omega
    clear hb3
    go_wp2_with fail
    refine (c_LastNilD w3 most (.func (.func 29) #[] #[])).mono ?_
    rintro e w4 ⟨rfl, hb4⟩
    have hB_w4 := hB_w3.next hb4
    replace HM := Lib.hid (HM.out.next hb4)
    have K_1 : Blk w4 (w.heap.size) 24 #[.slice A n cap, .int .i64 im.mem, .int .i64 im.stacks] := Blk.next (by repeat' (first | with_reducible exact H_1.out | with_reducible exact K0_1 | (refine Blk.new' ?_ _ _; simp; done) | with_reducible refine Blk.alloc ?_ _ | with_reducible refine Blk.drewN ?_ _ | with_reducible refine Blk.drew ?_)) hb4; (try clear H_1); (try clear T_1); (try clear z_1); (try clear F_1); obtain ⟨z_1, T_1, F_1⟩ := K_1.open_; have H_1 := Lib.hid K_1; clear K_1
    clear hb4
    go_wp2_with fail
    refine (show Calls Tryd.prog 27 #[.pointer none, .int .i64 0, .int .i64 1, .func (.func 29) #[] #[]] w4 _ from c_BisectNilD w4 0 1 _ #[] #[]).mono ?_
    rintro e w5 ⟨rfl, hb5⟩
    have hB_w5 := hB_w4.next hb5
    replace HM := Lib.hid (HM.out.next hb5)
    have K_1 : Blk w5 (w.heap.size) 24 #[.slice A n cap, .int .i64 im.mem, .int .i64 im.stacks] := Blk.next (by repeat' (first | with_reducible exact H_1.out | with_reducible exact K0_1 | (refine Blk.new' ?_ _ _; simp; done) | with_reducible refine Blk.alloc ?_ _ | with_reducible refine Blk.drewN ?_ _ | with_reducible refine Blk.drew ?_)) hb5; (try clear H_1); (try clear T_1); (try clear z_1); (try clear F_1); obtain ⟨z_1, T_1, F_1⟩ := K_1.open_; have H_1 := Lib.hid K_1; clear K_1
    clear hb5
    go_wp2_with fail
    refine (c_NextNilD w5 most (.func (.func 29) #[] #[])).mono ?_
    rintro e w6 ⟨rfl, hb6⟩
    have hB_w6 := hB_w5.next hb6
    replace HM := Lib.hid (HM.out.next hb6)
    have K_1 : Blk w6 (w.heap.size) 24 #[.slice A n cap, .int .i64 im.mem, .int .i64 im.stacks] := Blk.next (by repeat' (first | with_reducible exact H_1.out | with_reducible exact K0_1 | (refine Blk.new' ?_ _ _; simp; done) | with_reducible refine Blk.alloc ?_ _ | with_reducible refine Blk.drewN ?_ _ | with_reducible refine Blk.drew ?_)) hb6; (try clear H_1); (try clear T_1); (try clear z_1); (try clear F_1); obtain ⟨z_1, T_1, F_1⟩ := K_1.open_; have H_1 := Lib.hid K_1; clear K_1
    clear hb6
    go_wp2_with fail
    refine (c_PrevNilD w6 most (.func (.func 29) #[] #[])).mono ?_
    rintro e w7 ⟨rfl, hb7⟩
    have hB_w7 := hB_w6.next hb7
    replace HM := Lib.hid (HM.out.next hb7)
    have K_1 : Blk w7 (w.heap.size) 24 #[.slice A n cap, .int .i64 im.mem, .int .i64 im.stacks] := Blk.next (by repeat' (first | with_reducible exact H_1.out | with_reducible exact K0_1 | (refine Blk.new' ?_ _ _; simp; done) | with_reducible refine Blk.alloc ?_ _ | with_reducible refine Blk.drewN ?_ _ | with_reducible refine Blk.drew ?_)) hb7; (try clear H_1); (try clear T_1); (try clear z_1); (try clear F_1); obtain ⟨z_1, T_1, F_1⟩ := K_1.open_; have H_1 := Lib.hid K_1; clear K_1
    clear hb7
    go_wp2_with (refine wpList_loadG 30 rfl rfl rfl (load_mach HM.out) ?_; simp only [Act.put, List.setIfInBounds_toArray, List.set_cons_succ, List.set_cons_zero])
    by_cases h0 : ck = 0
    · subst h0
      cases ff with
      | false =>
        refine (c_DNewMis A n cap im M vm vs vc vi vo sv w7 (Rd.upL HC.out hB_w7) hw (MLs.up HL.out hB_w7) hms (by have := HCL.out; omega) (HT.out.next hB_w7) HCK.out HFF.out).mono ?_
        rintro e w8 ⟨rfl, hb8⟩
        have hB_w8 := hB_w7.next hb8
        clear hb8
        go_wp2_with fail
        go_ret
        exact ⟨rfl, hB_w8⟩
      | true =>
        have hFit := Fit.of HWF.out HFF.out
        have hbd : MBd M := MBd.of HCK.out hFit (K := 17592186043904) HLL.out (by omega)
        have HVE : Hid (VEnv im M 130) := Lib.hid (VEnv.of HCK.out hw hFit (K := 17592186043904) HLL.out (by omega))
        refine (c_DNewOk A n cap im M vm vs vc vi vo sv w7 (Rd.upL HC.out hB_w7) hw (MLs.up HL.out hB_w7) hms (by have := HCL.out; omega) (HT.out.next hB_w7) HCK.out hFit hbd).mono ?_
        rintro e w8 ⟨P, A', n', cap', rfl, hV, hA, hO, hfx, hR, hb8⟩
        have HV8 := Lib.hid hV; have HA8 := Lib.hid hA
        have hB_w8 := hB_w7.next hb8
        have BEL : Hid (∀ wz, Fr P.O w8 wz → Below w.heap.size w wz) := Lib.hid fun wz hf => hB_w8.trans (hf.below (B := w.heap.size) (by have := hB_w8.size; omega) (fun k hk => by have := (hO k hk).1; have := hB_w7.size; omega))
        have HF8 := Lib.hid (Fr.refl P.O w8)
        clear hV hA hO hfx hR hb8 hFit hbd T_1 z_1 F_1 H_1
        have m0 : I64 0 := by unfold I64; omega
        have m1 : I64 (-1) := by unfold I64; omega
        have m9 : I64 9 := by unfold I64; omega
        go_wp2_with fail
        refine (c_LastNilF w8 P.b most).mono ?_
        rintro e w9 ⟨rfl, hb9⟩
        have HV9 := Lib.hid (HV8.out.next hb9); have HA9 := Lib.hid (HA8.out.next hb9); have HF9 := Lib.hid (HF8.out.next hb9)
        clear hb9
        go_wp2_with fail
        refine (show Calls Tryd.prog 27 #[.pointer (some ⟨P.b, 0, none⟩), .int .i64 0, .int .i64 1, .nilFunc] w9 _ from c_BisectNilF w9 P.b 0 1).mono ?_
        rintro e w10 ⟨rfl, hb10⟩
        have HV10 := Lib.hid (HV9.out.next hb10); have HA10 := Lib.hid (HA9.out.next hb10); have HF10 := Lib.hid (HF9.out.next hb10)
        clear hb10
        go_wp2_with fail
        refine (c_NextNilF w10 P.b most).mono ?_
        rintro e w11 ⟨rfl, hb11⟩
        have HV11 := Lib.hid (HV10.out.next hb11); have HA11 := Lib.hid (HA10.out.next hb11); have HF11 := Lib.hid (HF10.out.next hb11)
        clear hb11
        go_wp2_with fail
        refine (c_PrevNilF w11 P.b most).mono ?_
        rintro e w12 ⟨rfl, hb12⟩
        have HV12 := Lib.hid (HV11.out.next hb12); have HA12 := Lib.hid (HA11.out.next hb12); have HF12 := Lib.hid (HF11.out.next hb12)
        clear hb12
        go_wp2_with fail
        have hs := c_Last HV12.out HVE.out (j := 0) (by omega) (by omega) (enters_of Tryd.func29 (by kernel_rfl) rfl) (pred_always _) (fun b hb => hb.elim) 0 m0 (by omega) (by decide) (by omega) HA12.out
        have HS := Lib.hid hs
        clear hs
        refine (show Calls Tryd.prog _ _ _ (fun e w' => e = .returned (.tuple #[.int .i64 0, .bool true]) ∧ DAt w' P im.code M 0 ∧ Fr P.O w12 w') from HS.out).mono ?_
        rintro e w13 ⟨rfl, ha13, hf13⟩
        have HV13 := Lib.hid (HV12.out.fr hf13); have HA13 := Lib.hid ha13; have HF13 := Lib.hid (HF12.out.trans hf13)
        clear ha13 hf13 HS
        go_wp2_with fail
        refine (c_LastNeg w13 P.b (-1) (by omega) _ #[] #[]).mono ?_
        rintro e w14 ⟨rfl, hb14⟩
        have HV14 := Lib.hid (HV13.out.next hb14); have HA14 := Lib.hid (HA13.out.next hb14); have HF14 := Lib.hid (HF13.out.next hb14)
        clear hb14
        go_wp2_with fail
        have hs := c_Next HV14.out HVE.out (j := 0) (by omega) (by omega) (enters_of Tryd.func29 (by kernel_rfl) rfl) (pred_always _) (fun b hb => hb.elim) 0 m0 (by decide) (by omega) HA14.out
        have HS := Lib.hid hs
        clear hs
        refine (show Calls Tryd.prog _ _ _ (fun e w' => e = .returned (.bool false) ∧ DAt w' P im.code M 0 ∧ Fr P.O w14 w') from HS.out).mono ?_
        rintro e w15 ⟨rfl, ha15, hf15⟩
        have HV15 := Lib.hid (HV14.out.fr hf15); have HA15 := Lib.hid ha15; have HF15 := Lib.hid (HF14.out.trans hf15)
        clear ha15 hf15 HS
        go_wp2_with fail
        have hs := c_Next HV15.out HVE.out (j := 0) (by omega) (by omega) (enters_of Tryd.func29 (by kernel_rfl) rfl) (pred_always _) (fun b hb => hb.elim) (-1) m1 (by decide) (by omega) HA15.out
        have HS := Lib.hid hs
        clear hs
        refine (show Calls Tryd.prog _ _ _ (fun e w' => e = .returned (.bool false) ∧ DAt w' P im.code M 0 ∧ Fr P.O w15 w') from HS.out).mono ?_
        rintro e w16 ⟨rfl, ha16, hf16⟩
        have HV16 := Lib.hid (HV15.out.fr hf16); have HA16 := Lib.hid ha16; have HF16 := Lib.hid (HF15.out.trans hf16)
        clear ha16 hf16 HS
        go_wp2_with fail
        have hs := c_Prev HV16.out HVE.out (j := 0) (by omega) (by omega) (enters_of Tryd.func29 (by kernel_rfl) rfl) (pred_always _) (fun b hb => hb.elim) 9 m9 (by omega) HA16.out
        have HS := Lib.hid hs
        clear hs
        refine (show Calls Tryd.prog _ _ _ (fun e w' => e = .returned (.bool false) ∧ DAt w' P im.code M 0 ∧ Fr P.O w16 w') from HS.out).mono ?_
        rintro e w17 ⟨rfl, ha17, hf17⟩
        have HV17 := Lib.hid (HV16.out.fr hf17); have HA17 := Lib.hid ha17; have HF17 := Lib.hid (HF16.out.trans hf17)
        clear ha17 hf17 HS
        go_wp2_with fail
        refine (c_DTime HV17.out HA17.out).mono ?_
        rintro e w18 ⟨rfl, hb18⟩
        have HF18 := Lib.hid (HF17.out.next hb18)
        clear hb18
        go_wp2_with fail
        go_ret
        exact ⟨rfl, BEL.out _ HF18.out⟩
    · have h0' : (ck != 0) = true := by simpa using h0
      have H0 := Lib.hid h0
      clear h0
      refine (c_DNewBad A n cap im M vm vs vc vi vo sv w7 (Rd.upL HC.out hB_w7) hw (MLs.up HL.out hB_w7) hms (by have := HCL.out; omega) (HT.out.next hB_w7) HCK.out H0.out).mono ?_
      rintro e w8 ⟨rfl, hb8⟩
      have hB_w8 := hB_w7.next hb8
      clear hb8
      go_wp2_with fail
      go_ret
      exact ⟨rfl, hB_w8⟩
end Go.Proofs.YtiejkfomadaakaaDoor
