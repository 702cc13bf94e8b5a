/- The walk of the law VmAdds. -/
import Derived.Test.YtmdjpmfkghjlhaaDoorVmZ
set_option linter.unusedVariables false
set_option linter.unusedSimpArgs false
set_option maxRecDepth 100000
namespace Go.Proofs.YtmdjpmfkghjlhaaDoor
open Go.RowKit Bk
set_option maxHeartbeats 8000000 in
theorem c_lawVmAdds (A : Option Addr) (n cap : Nat) (im : Img) (M : Mach) (vm vs vc vi vo : Value) (sv : List Value) (w : World) (hC : Rd w (· < w.heap.size) 5 A n (codeCells im.code)) (hw : CodeWf im.code) (hL : MLs w (· < w.heap.size) M vm vs vc vi vo sv) (hwf : MWf M) (hl : ∀ l ∈ M.s, l.length ≤ 281474976710656) (hTab : TableAt w) (st fu : Int) (hst : I64 st) (hfu : I64 fu) :
    Calls Tryd.prog 5 #[.agg #[.slice A n cap, .int .i64 im.mem, .int .i64 im.stacks], .agg (mcells M vm vs vc vi vo).toArray, .int .i64 st, .int .i64 fu] w fun e w' => e = .returned (.bool true) ∧ Below w.heap.size w w' := by
  obtain ⟨v, hv⟩ : ∃ v, okV im M st = v := ⟨_, rfl⟩
  have HOK := Lib.hid hv; clear hv
  unfold I64 at hst hfu
  have hnn : n = im.code.length := by have := hC.1; rw [codeCells_length] at this; omega
  have HC := Lib.hid hC; have HT := Lib.hid hTab; have HL := Lib.hid hL; have HLL := Lib.hid hl; have HN := Lib.hid hnn; have HWF := Lib.hid hwf
  clear hC hTab hL hl hnn hwf
  go_enter Tryd.func5, Tryd.ntmps5
  go_upto_region 1 with fail
  refine wp_nameY ?_
  intro w1 hw1
  have hB_w1 : Below w.heap.size w w1 := by rw [hw1]; exact (by repeat' (first | (with_reducible assumption) | (with_reducible exact Below.refl _ _) | (with_reducible refine Below.alloc ?_ ?_ _) | (with_reducible refine Bk.drewN_ ?_ _) | (with_reducible refine Below.drew ?_) | (with_reducible refine Below.setCell ?_ ?_ _) | go_size))
  have K_1 : Blk w1 w.heap.size 24 #[.slice A n cap, .int .i64 im.mem, .int .i64 im.stacks] := by rw [hw1]; exact (by repeat' (first | with_reducible assumption | (refine Blk.new' ?_ _ _; simp; done) | refine Blk.alloc ?_ _ | refine Blk.drewN ?_ _ | refine Blk.drew ?_))
  have KM : Blk w1 (w.heap.size + 1) 30 (mcells M vm vs vc vi vo).toArray := by rw [hw1]; exact (by repeat' (first | with_reducible assumption | (refine Blk.new' ?_ _ _; simp; done) | refine Blk.alloc ?_ _ | refine Blk.drewN ?_ _ | refine Blk.drew ?_))
  have HM := Lib.hid ((HL.out.next hB_w1).at_ KM)
  have zz : w1.heap.size = w.heap.size + 2 := by rw [hw1]; simp
  clear hw1 KM
  obtain ⟨z_1, T_1, F_1⟩ := K_1.open_; have H_1 := Lib.hid K_1; clear K_1
  go_wp2_with fail
  refine (c_awake25 _ (HT.out.next hB_w1)).mono ?_
  rintro e w2 ⟨rfl, hb2⟩
  have hB_w2 := hB_w1.next hb2
  replace HM := Lib.hid (HM.out.next hb2)
  have K_1 : Blk w2 (w.heap.size) 24 #[.slice A n cap, .int .i64 im.mem, .int .i64 im.stacks] := Blk.next (by repeat' (first | with_reducible exact H_1.out | with_reducible exact K0_1 | (refine Blk.new' ?_ _ _; simp; done) | with_reducible refine Blk.alloc ?_ _ | with_reducible refine Blk.drewN ?_ _ | with_reducible refine Blk.drew ?_)) hb2; (try clear H_1); (try clear T_1); (try clear z_1); (try clear F_1); obtain ⟨z_1, T_1, F_1⟩ := K_1.open_; have H_1 := Lib.hid K_1; clear K_1
  have z2 := hb2.size
  clear hb2
  have H2_1 := Lib.hid H_1.out
  clear T_1 z_1 F_1 H_1
  go_wp2_with fail
  refine (c_VRunNil _).mono ?_
  rintro e w3 ⟨rfl, hb3⟩
  have hB_w3 := hB_w2.next hb3
  have HBC := Lib.hid hb3
  clear hb3
  go_wp2_with fail
  refine (c_VRunBackNil _).mono ?_
  rintro e w4 ⟨rfl, hb4⟩
  have hB_w4 := hB_w3.next hb4
  replace HBC := Lib.hid (HBC.out.next hb4)
  clear hb4
  go_wp2_with fail
  refine (c_VMachineNil _).mono ?_
  rintro e w5 ⟨rfl, hb5⟩
  have hB_w5 := hB_w4.next hb5
  replace HBC := Lib.hid (HBC.out.next hb5)
  clear hb5
  go_upto_region 7 with (refine wpList_store_row rfl 30 (.tmp 14) (.tmp 30) rfl w5.heap.size _ rfl rfl 30 #[.int .i64 0, .int .i64 0, .int .i64 0, .int .i64 0, .int .i64 0, .int .i64 0, .int .i64 0, .int .i64 0, .int .i64 0, .int .i64 0, .int .i64 0, .int .i64 0, .int .i64 0, .int .i64 0, .int .i64 0, .int .i64 0, .int .i64 0, .int .i64 0, .slice none 0 0, .slice none 0 0, .slice none 0 0, .int .i64 0, .int .i64 0, .slice none 0 0, .slice none 0 0] (heap_alloc_new w5 _) (by rw [info_mach25]; rfl) rfl (by simp [Value.oneCell']) ?_; simp only [Act.put, List.setIfInBounds_toArray, List.set_cons_succ, List.set_cons_zero])
  refine wp_nameY ?_
  intro w6 hw6
  rw [World.setRow_alloc_new] at hw6
  have hb6 : Below w5.heap.size w5 w6 := by rw [hw6]; exact (by repeat' (first | (with_reducible assumption) | (with_reducible exact Below.refl _ _) | (with_reducible refine Below.alloc ?_ ?_ _) | (with_reducible refine Bk.drewN_ ?_ _) | (with_reducible refine Below.drew ?_) | (with_reducible refine Below.setCell ?_ ?_ _) | go_size))
  have K6 : Blk w6 w5.heap.size 30 #[.int .i64 0, .int .i64 0, .int .i64 0, .int .i64 0, .int .i64 0, .int .i64 0, .int .i64 0, .int .i64 0, .int .i64 0, .int .i64 0, .int .i64 0, .int .i64 0, .int .i64 0, .int .i64 0, .int .i64 0, .int .i64 0, .int .i64 0, .int .i64 0, .slice none 0 0, .slice none 0 0, .slice none 0 0, .int .i64 0, .int .i64 0, .slice none 0 0, .slice none 0 0] := by rw [hw6]; exact Blk.new _ _ _
  have HK := Lib.hid K6
  clear hw6 K6
  have hB_w6 := hB_w5.next hb6
  replace HBC := Lib.hid (HBC.out.next hb6)
  clear hb6
  go_wp2_with fail
  refine (c_VStepNil _).mono ?_
  rintro e w7 ⟨rfl, hb7⟩
  replace HK := Lib.hid (HK.out.next hb7)
  have hB_w7 := hB_w6.next hb7
  replace HBC := Lib.hid (HBC.out.next hb7)
  clear hb7
  go_wp2_with fail
  refine (c_VBackNil _).mono ?_
  rintro e w8 ⟨rfl, hb8⟩
  replace HK := Lib.hid (HK.out.next hb8)
  have hB_w8 := hB_w7.next hb8
  replace HBC := Lib.hid (HBC.out.next hb8)
  clear hb8
  go_wp2_with fail
  refine (c_VAddNil _ _).mono ?_
  rintro e w9 ⟨rfl, hb9⟩
  replace HK := Lib.hid (HK.out.next hb9)
  have hB_w9 := hB_w8.next hb9
  replace HBC := Lib.hid (HBC.out.next hb9)
  clear hb9
  go_wp2_with fail
  refine (c_VFuelNil _).mono ?_
  rintro e w10 ⟨rfl, hb10⟩
  replace HK := Lib.hid (HK.out.next hb10)
  have hB_w10 := hB_w9.next hb10
  replace HBC := Lib.hid (HBC.out.next hb10)
  clear hb10
  go_wp2_with fail
  refine (c_VTicksNil _).mono ?_
  rintro e w11 ⟨rfl, hb11⟩
  replace HK := Lib.hid (HK.out.next hb11)
  have hB_w11 := hB_w10.next hb11
  replace HBC := Lib.hid (HBC.out.next hb11)
  clear hb11
  go_wp2_with fail
  refine (c_VHaltedNil _).mono ?_
  rintro e w12 ⟨rfl, hb12⟩
  replace HK := Lib.hid (HK.out.next hb12)
  have hB_w12 := hB_w11.next hb12
  replace HBC := Lib.hid (HBC.out.next hb12)
  clear hb12
  have c1 : w12.cell? ⟨w5.heap.size, 1, none⟩ = some (.int .i64 0) := HK.out.cell 1
  have c18 : w12.cell? ⟨w5.heap.size, 18, none⟩ = some (.slice none 0 0) := HK.out.cell 18
  have zk := HK.out.lt
  go_upto_region 9 with fail
  clear c1 c18
  have K_1 : Blk w12 w.heap.size 24 #[.slice A n cap, .int .i64 im.mem, .int .i64 im.stacks] := H2_1.out.next HBC.out
  have HM := Lib.hid (HM.out.next HBC.out)
  obtain ⟨z_1, T_1, F_1⟩ := K_1.open_; have H_1 := Lib.hid K_1; clear K_1
  go_wp2_with (refine wpList_loadG 30 rfl rfl rfl (load_mach HM.out) ?_; simp only [Act.put, List.setIfInBounds_toArray, List.set_cons_succ, List.set_cons_zero])
  cases v with
  | false =>
    refine (c_madeNone A n cap im M vm vs vc vi vo sv w12 (Rd.upL HC.out hB_w12) hw (MLs.up HL.out hB_w12) HWF.out HLL.out (HT.out.next hB_w12) st HOK.out).mono ?_
    rintro e w13 ⟨rfl, hb13⟩
    have hB_w13 := hB_w12.next hb13
    clear hb13
    go_wp2_with fail
    go_ret
    exact ⟨rfl, hB_w13⟩
  | true =>
    obtain ⟨s, rfl⟩ := Int.eq_ofNat_of_zero_le (okV.facts HOK.out).2.2.2.1
    have hs40 : s ≤ 1099511627776 := by have := (okV.facts HOK.out).2.2.2.2; omega
    refine (show Calls Tryd.prog 16 #[_, _, .int .i64 s] w12 _ from c_madeOk A n cap im M vm vs vc vi vo sv w12 (Rd.upL HC.out hB_w12) hw (MLs.up HL.out hB_w12) HWF.out HLL.out (HT.out.next hB_w12) s HOK.out).mono ?_
    rintro e w13 ⟨P, A', n', cap', rfl, hV, hA, hO, hfx, hR, hb13⟩
    have hB_w13 := hB_w12.next hb13
    replace HM := Lib.hid (HM.out.next hb13)
    have K_1 : Blk w13 (w.heap.size) 24 #[.slice A n cap, .int .i64 im.mem, .int .i64 im.stacks] := Blk.next (by repeat' (first | with_reducible exact H_1.out | with_reducible exact K0_1 | (refine Blk.new' ?_ _ _; simp; done) | with_reducible refine Blk.alloc ?_ _ | with_reducible refine Blk.drewN ?_ _ | with_reducible refine Blk.drew ?_)) hb13; (try clear H_1); (try clear T_1); (try clear z_1); (try clear F_1); obtain ⟨z_1, T_1, F_1⟩ := K_1.open_; have H_1 := Lib.hid K_1; clear K_1
    obtain ⟨hg, hck, hf, hx0, hx1⟩ := okV.facts HOK.out
    have hsm := Sm25.of hg
    have HVE : Hid (VEnv im M 1) := Lib.hid (VEnv.sm hsm hck hw HWF.out hf (by decide))
    have HSM := Lib.hid hsm
    have HV := Lib.hid hV; have HA := Lib.hid hA; have HO := Lib.hid hO; have HFX := Lib.hid hfx; have HR := Lib.hid hR
    have z13 := hb13.size
    have zb12 := hB_w12.size
    have BEL : Hid (∀ wz, Fr P.O w13 wz → Below w.heap.size w wz) := Lib.hid fun wz hf => hB_w13.trans (hf.below (B := w.heap.size) (by omega) (fun k hk => by have := (hO k hk).1; omega))
    have HNO : Hid (∀ k, k < w12.heap.size → ¬ P.O k) := Lib.hid fun k hk ho => by have := (hO k ho).1; omega
    have HM13 := Lib.hid HM.out
    have H13_1 := Lib.hid H_1.out
    clear hV hA hO hfx hR hb13 hg hck hf hx0 hx1 hsm HM
    clear T_1 z_1 F_1 H_1
    by_cases h1 : fu < 0
    · go_wp2_with fail
      refine (c_VAddNeg HV.out HA.out fu h1).mono ?_
      rintro e w14 ⟨rfl, hb14⟩
      go_wp2_with fail
      refine (c_VFuel (HV.out.next hb14) (HA.out.next hb14)).mono ?_
      rintro e w15 ⟨rfl, hb15⟩
      go_wp2_with fail
      go_ret
      exact ⟨rfl, (hB_w13.next hb14).next hb15⟩
    · have h1' : 0 ≤ fu := by omega
      by_cases h2 : 1099511627776 - (s : Int) < fu
      · go_wp2_with fail
        refine (c_VAddFull HV.out HA.out fu h1' hs40 h2).mono ?_
        rintro e w14 ⟨rfl, hb14⟩
        go_wp2_with fail
        refine (c_VFuel (HV.out.next hb14) (HA.out.next hb14)).mono ?_
        rintro e w15 ⟨rfl, hb15⟩
        go_wp2_with fail
        go_ret
        exact ⟨rfl, (hB_w13.next hb14).next hb15⟩
      · obtain ⟨y, rfl⟩ := Int.eq_ofNat_of_zero_le h1'
        have hsy : s + y ≤ 1099511627776 := by omega
        have hle : (y : Int) ≤ 1099511627776 - (s : Int) := by omega
        go_wp2_with fail
        refine (c_VAddOk HV.out HA.out y hs40 hsy).mono ?_
        rintro e w14 ⟨rfl, hA14, hf14⟩
        have HV14 := Lib.hid (HV.out.fr hf14); have HA14 := Lib.hid hA14; have HF14 := Lib.hid hf14
        clear hA14 hf14
        obtain ⟨q, hq⟩ : ∃ q : Nat, q = s + y := ⟨_, rfl⟩
        rw [← hq] at HA14
        have hqq : (((q : Nat) : Int) == (s : Int) + (y : Int)) = true := by simp; omega
        have HQ := Lib.hid hq; clear hq
        go_wp2_with fail
        refine (c_VFuel HV14.out HA14.out).mono ?_
        rintro e w15 ⟨rfl, hb15⟩
        go_wp2_with fail
        go_ret
        exact ⟨rfl, BEL.out _ (HF14.out.next hb15)⟩
end Go.Proofs.YtmdjpmfkghjlhaaDoor
