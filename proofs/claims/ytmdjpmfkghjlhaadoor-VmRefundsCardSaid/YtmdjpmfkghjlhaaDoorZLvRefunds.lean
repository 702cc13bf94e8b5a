/- The walk of the law VmRefunds. -/
import Derived.Test.YtmdjpmfkghjlhaaDoorVmZ
import Derived.Test.YtmdjpmfkghjlhaaDoorZOpenU8
set_option linter.unusedVariables false
set_option linter.unusedSimpArgs false
set_option maxRecDepth 100000
namespace Go.Proofs.YtmdjpmfkghjlhaaDoor
open Go.RowKit Bk
set_option maxHeartbeats 16000000 in
theorem c_lawVmRefunds (A : Option Addr) (n cap : Nat) (im : Img) (M : Mach) (vm vs vc vi vo : Value) (sv : List Value) (w : World) (hC : Rd w (· < w.heap.size) 5 A n (codeCells im.code)) (hw : CodeWf im.code) (hL : MLs w (· < w.heap.size) M vm vs vc vi vo sv) (hwf : MWf M) (hl : ∀ l ∈ M.s, l.length ≤ 281474976710656) (hTab : TableAt w) (l : List Nat) (vl : Value) (hl8 : ∀ y ∈ l, y ≤ 255) (hS : Sl w (· < w.heap.size) 1 vl l.length (u8Cells l)) :
    Calls Tryd.prog 4 #[.agg #[.slice A n cap, .int .i64 im.mem, .int .i64 im.stacks], .agg (mcells M vm vs vc vi vo).toArray, vl] w fun e w' => e = .returned (.bool true) ∧ Below w.heap.size w w' := by
  obtain ⟨v, hv⟩ : ∃ v, okV im M (20 : Int) = v := ⟨_, rfl⟩
  have HOK := Lib.hid hv; clear hv
  have HS := Lib.hid hS; have H8 := Lib.hid hl8
  obtain ⟨Al, cl, rfl, _⟩ := hS
  clear hl8
  have hnn : n = im.code.length := by have := hC.1; rw [codeCells_length] at this; omega
  have HC := Lib.hid hC; have HT := Lib.hid hTab; have HL := Lib.hid hL; have HLL := Lib.hid hl; have HN := Lib.hid hnn; have HWF := Lib.hid hwf
  clear hC hTab hL hl hnn hwf
  go_enter Tryd.func4, Tryd.ntmps4
  go_upto_region 1 with fail
  refine wp_nameY ?_
  intro w1 hw1
  have hB_w1 : Below w.heap.size w w1 := by rw [hw1]; exact (by repeat' (first | (with_reducible assumption) | (with_reducible exact Below.refl _ _) | (with_reducible refine Below.alloc ?_ ?_ _) | (with_reducible refine Bk.drewN_ ?_ _) | (with_reducible refine Below.drew ?_) | (with_reducible refine Below.setCell ?_ ?_ _) | go_size))
  have K_1 : Blk w1 w.heap.size 24 #[.slice A n cap, .int .i64 im.mem, .int .i64 im.stacks] := by rw [hw1]; exact (by repeat' (first | with_reducible assumption | (refine Blk.new' ?_ _ _; simp; done) | refine Blk.alloc ?_ _ | refine Blk.drewN ?_ _ | refine Blk.drew ?_))
  have KM : Blk w1 (w.heap.size + 1) 30 (mcells M vm vs vc vi vo).toArray := by rw [hw1]; exact (by repeat' (first | with_reducible assumption | (refine Blk.new' ?_ _ _; simp; done) | refine Blk.alloc ?_ _ | refine Blk.drewN ?_ _ | refine Blk.drew ?_))
  have HM := Lib.hid ((HL.out.next hB_w1).at_ KM)
  have zz : w1.heap.size = w.heap.size + 2 := by rw [hw1]; simp
  clear hw1 KM
  obtain ⟨z_1, T_1, F_1⟩ := K_1.open_; have H_1 := Lib.hid K_1; clear K_1
  go_wp2_with fail
  refine (c_awake25 _ (HT.out.next hB_w1)).mono ?_
  rintro e w2 ⟨rfl, hb2⟩
  have hB_w2 := hB_w1.next hb2
  replace HM := Lib.hid (HM.out.next hb2)
  have K_1 : Blk w2 (w.heap.size) 24 #[.slice A n cap, .int .i64 im.mem, .int .i64 im.stacks] := Blk.next (by repeat' (first | with_reducible exact H_1.out | with_reducible exact K0_1 | (refine Blk.new' ?_ _ _; simp; done) | with_reducible refine Blk.alloc ?_ _ | with_reducible refine Blk.drewN ?_ _ | with_reducible refine Blk.drew ?_)) hb2; (try clear H_1); (try clear T_1); (try clear z_1); (try clear F_1); obtain ⟨z_1, T_1, F_1⟩ := K_1.open_; have H_1 := Lib.hid K_1; clear K_1
  have z2 := hb2.size
  clear hb2
  go_wp2_with (refine wpList_loadG 30 rfl rfl rfl (load_mach HM.out) ?_; simp only [Act.put, List.setIfInBounds_toArray, List.set_cons_succ, List.set_cons_zero])
  cases v with
  | false =>
    refine (c_madeNone A n cap im M vm vs vc vi vo sv w2 (Rd.upL HC.out hB_w2) hw (MLs.up HL.out hB_w2) HWF.out HLL.out (HT.out.next hB_w2) 20 HOK.out).mono ?_
    rintro e w3 ⟨rfl, hb3⟩
    have hB_w3 := hB_w2.next hb3
    clear hb3
    go_wp2_with fail
    go_ret
    exact ⟨rfl, hB_w3⟩
  | true =>
    refine (show Calls Tryd.prog 16 #[_, _, .int .i64 20] w2 _ from c_madeOk A n cap im M vm vs vc vi vo sv w2 (Rd.upL HC.out hB_w2) hw (MLs.up HL.out hB_w2) HWF.out HLL.out (HT.out.next hB_w2) 20 HOK.out).mono ?_
    rintro e w3 ⟨P, A', n', cap', rfl, hV, hA, hO, hfx, hR, hb3⟩
    have hB_w3 := hB_w2.next hb3
    replace HM := Lib.hid (HM.out.next hb3)
    have K_1 : Blk w3 (w.heap.size) 24 #[.slice A n cap, .int .i64 im.mem, .int .i64 im.stacks] := Blk.next (by repeat' (first | with_reducible exact H_1.out | with_reducible exact K0_1 | (refine Blk.new' ?_ _ _; simp; done) | with_reducible refine Blk.alloc ?_ _ | with_reducible refine Blk.drewN ?_ _ | with_reducible refine Blk.drew ?_)) hb3; (try clear H_1); (try clear T_1); (try clear z_1); (try clear F_1); obtain ⟨z_1, T_1, F_1⟩ := K_1.open_; have H_1 := Lib.hid K_1; clear K_1
    obtain ⟨hg, hck, hf, hx0, hx1⟩ := okV.facts HOK.out
    have hsm := Sm25.of hg
    have HVE : Hid (VEnv im M 40000) := Lib.hid (VEnv.sm hsm hck hw HWF.out hf (by decide))
    have HSM := Lib.hid hsm
    have HV := Lib.hid hV; have HA := Lib.hid hA; have HO := Lib.hid hO; have HFX := Lib.hid hfx; have HR := Lib.hid hR
    have z3 := hb3.size
    have zb2 := hB_w2.size
    have BEL : Hid (∀ wz, Fr P.O w3 wz → Below w.heap.size w wz) := Lib.hid fun wz hf => hB_w3.trans (hf.below (B := w.heap.size) (by omega) (fun k hk => by have := (hO k hk).1; omega))
    have HNO : Hid (∀ k, k < w2.heap.size → ¬ P.O k) := Lib.hid fun k hk ho => by have := (hO k ho).1; omega
    have HM3 := Lib.hid HM.out
    have H3_1 := Lib.hid H_1.out
    clear hV hA hO hfx hR hb3 hg hck hf hx0 hx1 hsm HM
    have hSl3 : Sl w3 (· < w3.heap.size) 1 (.slice Al l.length cl) l.length (u8Cells l) := HS.out.keep (fun b o hd => hB_w3.cell (p := ⟨b, o, none⟩) hd) (fun k hk => Nat.lt_of_lt_of_le hk hB_w3.size)
    clear T_1 z_1 F_1 H_1 hSl3
    by_cases h60 : 60 < l.length
    · have h60' : (60 : Int) < (l.length : Int) := by omega
      go_wp2_with fail
      go_ret
      exact ⟨rfl, hB_w3⟩
    have h60' : ¬ (60 : Int) < (l.length : Int) := by omega
    go_wp2_with fail
    go_loopw [8, 25] (fun v8 v25 wr => ∃ (i : Nat) (sm : Int) (j f : Nat), i ≤ l.length ∧ v25 = .int .i64 i ∧ v8 = .int .i64 sm ∧ (f : Int) + (j : Int) = sm ∧ sm ≤ 20 + 255 * (i : Int) ∧ VAt wr P im.code M j f ∧ Fr P.O w3 wr) (fun _ v _ => l.length - (intOf v).toNat)
    case atStart => exact ⟨0, 20, 0, 20, Nat.zero_le _, rfl, rfl, by decide, by decide, HA.out, Fr.refl _ _⟩
    case round =>
      obtain ⟨i, sm, j, f, hi, rfl, rfl, hsm, hsb, hA4, hf4⟩ := hrel
      have HA4 := Lib.hid hA4; have HF4 := Lib.hid hf4; have HV4 := Lib.hid (HV.out.fr hf4)
      have z4 := hf4.size
      have HSM := Lib.hid hsm
      have HSB : Hid (sm ≤ 20 + 255 * (i : Int) ∧ (i : Int) ≤ 60) := Lib.hid ⟨hsb, by omega⟩
      have sm0 : 0 ≤ sm := by omega
      have sm1 : sm ≤ 16000 := by omega
      clear hA4 hf4 hsm hsb
      by_cases hlt : i < l.length
      · obtain ⟨_, _, ev, _, _, hR⟩ := HS.out
        injection ev with ev _ evc
        subst ev; subst evc
        obtain ⟨bl, ol, rfl, hdl, hcell⟩ := hR.2 (by omega)
        have ec := ((BEL.out _ HF4.out).cell (p := ⟨bl, ol + i, none⟩) hdl).trans (hcell i _ (u8Cells_get l i hlt))
        have ob8 : l.getD i 0 ≤ 255 := H8.out _ (by rw [List.getD_eq_getElem?_getD, List.getElem?_eq_getElem hlt]; exact List.getElem_mem hlt)
        generalize l.getD i 0 = ob at *
        have i0 : (0 : Int) ≤ (i : Int) := by omega
        have i1 : (i : Int) < (l.length : Int) := by omega
        have o0 : (0 : Int) ≤ (ob : Int) := by omega
        have o1 : (ob : Int) ≤ 255 := by omega
        have hwo : IntKind.i64.wrap (ob : Int) = (ob : Int) := wrap_small _ (by omega) (by omega)
        clear hR hcell hdl
        have hmod : (ob : Int).tmod 5 = ((ob % 5 : Nat) : Int) := by rw [Int.tmod_eq_emod_of_nonneg o0]; omega
        have hr : ob % 5 = 0 ∨ ob % 5 = 1 ∨ ob % 5 = 2 ∨ ob % 5 = 3 ∨ ob % 5 = 4 := by omega
        rcases hr with hr | hr | hr | hr | hr
        · replace hmod : (ob : Int).tmod 5 = 0 := by rw [hmod, hr]; rfl
          clear hr
          by_cases h1 : j = 0
          · subst h1
            go_wp2_with fail
            refine (c_VBack0 HV4.out HA4.out).mono ?_
            rintro e w5 ⟨rfl, hb5⟩
            have HV5 := Lib.hid (HV4.out.next hb5); have HF5 := Lib.hid (HF4.out.next hb5); have HA5 := Lib.hid (HA4.out.next hb5)
            obtain ⟨j1, hj1⟩ : ∃ j1, 0 = j1 := ⟨_, rfl⟩
            obtain ⟨f1, hf1⟩ : ∃ f1, f = f1 := ⟨_, rfl⟩
            rw [hj1, hf1] at HA5
            have HS1 : Hid ((f1 : Int) + (j1 : Int) = sm) := Lib.hid (by have := HSM.out; omega)
            clear hj1 hf1 hb5
            have hs1 : ((f1 : Int) + (j1 : Int) != sm) = false := by have := HS1.out; simp; omega
            have f1a : (0 : Int) ≤ (f1 : Int) := by omega
            have j1a : (0 : Int) ≤ (j1 : Int) := by omega
            have fj : (f1 : Int) + (j1 : Int) ≤ 40000 := by have := HS1.out; have := HSB.out; omega
            have f1b : ¬ (f1 : Int) < 0 := by omega
            have j1b : ¬ (j1 : Int) < 0 := by omega
            go_wp2_with fail
            refine (c_VFuel HV5.out HA5.out).mono ?_
            rintro e w6 ⟨rfl, hb6⟩
            have HV6 := Lib.hid (HV5.out.next hb6); have HA6 := Lib.hid (HA5.out.next hb6); have HF6 := Lib.hid (HF5.out.next hb6)
            clear hb6
            go_wp2_with fail
            refine (c_VTicks HV6.out HA6.out).mono ?_
            rintro e w7 ⟨rfl, hb7⟩
            have HV7 := Lib.hid (HV6.out.next hb7); have HA7 := Lib.hid (HA6.out.next hb7); have HF7 := Lib.hid (HF6.out.next hb7)
            clear hb7
            go_wp2_with fail
            refine (c_VFuel HV7.out HA7.out).mono ?_
            rintro e w8 ⟨rfl, hb8⟩
            have HV8 := Lib.hid (HV7.out.next hb8); have HA8 := Lib.hid (HA7.out.next hb8); have HF8 := Lib.hid (HF7.out.next hb8)
            clear hb8
            go_wp2_with fail
            refine (c_VTicks HV8.out HA8.out).mono ?_
            rintro e w9 ⟨rfl, hb9⟩
            have HA9 := Lib.hid (HA8.out.next hb9); have HF9 := Lib.hid (HF8.out.next hb9)
            clear hb9
            go_wp2_with fail
            exact ⟨⟨i + 1, sm, j1, f1, by omega, by go_num, rfl, by have := HS1.out; have := HSM.out; omega, by have := HSB.out; push_cast; omega, HA9.out, HF9.out⟩, by simp [intOf]; omega⟩
          · obtain ⟨jj, rfl⟩ : ∃ jj, j = jj + 1 := ⟨j - 1, by omega⟩
            go_wp2_with fail
            refine (c_VBackOk HV4.out HVE.out (by have := HSM.out; have := HSB.out; omega) (by have := HSM.out; have := HSB.out; omega) (by have := HSM.out; have := HSB.out; omega) (by have := HSM.out; have := HSB.out; omega) HA4.out).mono ?_
            rintro e w5 ⟨rfl, hA5, hf5⟩
            have HV5 := Lib.hid (HV4.out.fr hf5); have HF5 := Lib.hid (HF4.out.trans hf5)
            obtain ⟨j1, hj1⟩ : ∃ j1, jj = j1 := ⟨_, rfl⟩
            obtain ⟨f1, hf1⟩ : ∃ f1, f + 1 = f1 := ⟨_, rfl⟩
            rw [hj1, hf1] at hA5
            have HA5 := Lib.hid hA5
            have HS1 : Hid ((f1 : Int) + (j1 : Int) = sm) := Lib.hid (by have := HSM.out; omega)
            clear hj1 hf1 hA5 hf5
            have hs1 : ((f1 : Int) + (j1 : Int) != sm) = false := by have := HS1.out; simp; omega
            have f1a : (0 : Int) ≤ (f1 : Int) := by omega
            have j1a : (0 : Int) ≤ (j1 : Int) := by omega
            have fj : (f1 : Int) + (j1 : Int) ≤ 40000 := by have := HS1.out; have := HSB.out; omega
            have f1b : ¬ (f1 : Int) < 0 := by omega
            have j1b : ¬ (j1 : Int) < 0 := by omega
            go_wp2_with fail
            refine (c_VFuel HV5.out HA5.out).mono ?_
            rintro e w6 ⟨rfl, hb6⟩
            have HV6 := Lib.hid (HV5.out.next hb6); have HA6 := Lib.hid (HA5.out.next hb6); have HF6 := Lib.hid (HF5.out.next hb6)
            clear hb6
            go_wp2_with fail
            refine (c_VTicks HV6.out HA6.out).mono ?_
            rintro e w7 ⟨rfl, hb7⟩
            have HV7 := Lib.hid (HV6.out.next hb7); have HA7 := Lib.hid (HA6.out.next hb7); have HF7 := Lib.hid (HF6.out.next hb7)
            clear hb7
            go_wp2_with fail
            refine (c_VFuel HV7.out HA7.out).mono ?_
            rintro e w8 ⟨rfl, hb8⟩
            have HV8 := Lib.hid (HV7.out.next hb8); have HA8 := Lib.hid (HA7.out.next hb8); have HF8 := Lib.hid (HF7.out.next hb8)
            clear hb8
            go_wp2_with fail
            refine (c_VTicks HV8.out HA8.out).mono ?_
            rintro e w9 ⟨rfl, hb9⟩
            have HA9 := Lib.hid (HA8.out.next hb9); have HF9 := Lib.hid (HF8.out.next hb9)
            clear hb9
            go_wp2_with fail
            exact ⟨⟨i + 1, sm, j1, f1, by omega, by go_num, rfl, by have := HS1.out; have := HSM.out; omega, by have := HSB.out; push_cast; omega, HA9.out, HF9.out⟩, by simp [intOf]; omega⟩
        · replace hmod : (ob : Int).tmod 5 = 1 := by rw [hmod, hr]; rfl
          clear hr
          by_cases h2 : (200 : Int) < (ob : Int)
          · obtain ⟨N, hN⟩ : ∃ N, runV im.code M f j = N := ⟨_, rfl⟩
            have hNx : N ≤ f := by rw [← hN]; exact runV_le _ _ _ _
            obtain ⟨ee, hee⟩ : ∃ ee, endE im.code M (f - N) (j + N) = ee := ⟨_, rfl⟩
            have hs := c_VRun HV4.out HVE.out (j := j) (f := f) (by have := HSM.out; have := HSB.out; omega) (by have := HSM.out; have := HSB.out; omega) (by have := HSM.out; have := HSB.out; omega) HA4.out
            rw [hN, hee] at hs
            have HSS := Lib.hid hs
            clear hs hN hee
            go_wp2_with fail
            refine (HSS.out).mono ?_
            rintro e w5 ⟨rfl, hA5, hf5⟩
            have HV5 := Lib.hid (HV4.out.fr hf5); have HF5 := Lib.hid (HF4.out.trans hf5)
            obtain ⟨j1, hj1⟩ : ∃ j1, j + N = j1 := ⟨_, rfl⟩
            obtain ⟨f1, hf1⟩ : ∃ f1, f - N = f1 := ⟨_, rfl⟩
            rw [hj1, hf1] at hA5
            have HA5 := Lib.hid hA5
            have HS1 : Hid ((f1 : Int) + (j1 : Int) = sm) := Lib.hid (by have := HSM.out; omega)
            clear hj1 hf1 hA5 hf5
            have hs1 : ((f1 : Int) + (j1 : Int) != sm) = false := by have := HS1.out; simp; omega
            have f1a : (0 : Int) ≤ (f1 : Int) := by omega
            have j1a : (0 : Int) ≤ (j1 : Int) := by omega
            have fj : (f1 : Int) + (j1 : Int) ≤ 40000 := by have := HS1.out; have := HSB.out; omega
            have f1b : ¬ (f1 : Int) < 0 := by omega
            have j1b : ¬ (j1 : Int) < 0 := by omega
            go_wp2_with fail
            refine (c_VFuel HV5.out HA5.out).mono ?_
            rintro e w6 ⟨rfl, hb6⟩
            have HV6 := Lib.hid (HV5.out.next hb6); have HA6 := Lib.hid (HA5.out.next hb6); have HF6 := Lib.hid (HF5.out.next hb6)
            clear hb6
            go_wp2_with fail
            refine (c_VTicks HV6.out HA6.out).mono ?_
            rintro e w7 ⟨rfl, hb7⟩
            have HV7 := Lib.hid (HV6.out.next hb7); have HA7 := Lib.hid (HA6.out.next hb7); have HF7 := Lib.hid (HF6.out.next hb7)
            clear hb7
            go_wp2_with fail
            refine (c_VFuel HV7.out HA7.out).mono ?_
            rintro e w8 ⟨rfl, hb8⟩
            have HV8 := Lib.hid (HV7.out.next hb8); have HA8 := Lib.hid (HA7.out.next hb8); have HF8 := Lib.hid (HF7.out.next hb8)
            clear hb8
            go_wp2_with fail
            refine (c_VTicks HV8.out HA8.out).mono ?_
            rintro e w9 ⟨rfl, hb9⟩
            have HA9 := Lib.hid (HA8.out.next hb9); have HF9 := Lib.hid (HF8.out.next hb9)
            clear hb9
            go_wp2_with fail
            exact ⟨⟨i + 1, sm, j1, f1, by omega, by go_num, rfl, by have := HS1.out; have := HSM.out; omega, by have := HSB.out; push_cast; omega, HA9.out, HF9.out⟩, by simp [intOf]; omega⟩
          · go_wp2_with fail
            have hb5 : Below wr.heap.size wr wr := Below.refl _ _
            have HV5 := Lib.hid (HV4.out.next hb5); have HF5 := Lib.hid (HF4.out.next hb5); have HA5 := Lib.hid (HA4.out.next hb5)
            obtain ⟨j1, hj1⟩ : ∃ j1, j = j1 := ⟨_, rfl⟩
            obtain ⟨f1, hf1⟩ : ∃ f1, f = f1 := ⟨_, rfl⟩
            rw [hj1, hf1] at HA5
            have HS1 : Hid ((f1 : Int) + (j1 : Int) = sm) := Lib.hid (by have := HSM.out; omega)
            clear hj1 hf1 hb5
            have hs1 : ((f1 : Int) + (j1 : Int) != sm) = false := by have := HS1.out; simp; omega
            have f1a : (0 : Int) ≤ (f1 : Int) := by omega
            have j1a : (0 : Int) ≤ (j1 : Int) := by omega
            have fj : (f1 : Int) + (j1 : Int) ≤ 40000 := by have := HS1.out; have := HSB.out; omega
            have f1b : ¬ (f1 : Int) < 0 := by omega
            have j1b : ¬ (j1 : Int) < 0 := by omega
            go_wp2_with fail
            refine (c_VFuel HV5.out HA5.out).mono ?_
            rintro e w6 ⟨rfl, hb6⟩
            have HV6 := Lib.hid (HV5.out.next hb6); have HA6 := Lib.hid (HA5.out.next hb6); have HF6 := Lib.hid (HF5.out.next hb6)
            clear hb6
            go_wp2_with fail
            refine (c_VTicks HV6.out HA6.out).mono ?_
            rintro e w7 ⟨rfl, hb7⟩
            have HV7 := Lib.hid (HV6.out.next hb7); have HA7 := Lib.hid (HA6.out.next hb7); have HF7 := Lib.hid (HF6.out.next hb7)
            clear hb7
            go_wp2_with fail
            refine (c_VFuel HV7.out HA7.out).mono ?_
            rintro e w8 ⟨rfl, hb8⟩
            have HV8 := Lib.hid (HV7.out.next hb8); have HA8 := Lib.hid (HA7.out.next hb8); have HF8 := Lib.hid (HF7.out.next hb8)
            clear hb8
            go_wp2_with fail
            refine (c_VTicks HV8.out HA8.out).mono ?_
            rintro e w9 ⟨rfl, hb9⟩
            have HA9 := Lib.hid (HA8.out.next hb9); have HF9 := Lib.hid (HF8.out.next hb9)
            clear hb9
            go_wp2_with fail
            exact ⟨⟨i + 1, sm, j1, f1, by omega, by go_num, rfl, by have := HS1.out; have := HSM.out; omega, by have := HSB.out; push_cast; omega, HA9.out, HF9.out⟩, by simp [intOf]; omega⟩
        · replace hmod : (ob : Int).tmod 5 = 2 := by rw [hmod, hr]; rfl
          clear hr
          by_cases h2 : (200 : Int) < (ob : Int)
          · go_wp2_with fail
            refine (c_VRunBack HV4.out HVE.out (j := j) (f := f) (by have := HSM.out; have := HSB.out; omega) (by have := HSM.out; have := HSB.out; omega) (by have := HSM.out; have := HSB.out; omega) HA4.out (fun k hk => by have := (HO.out k hk).2; omega)).mono ?_
            rintro e w5 ⟨rfl, hA5, hf5⟩
            have HV5 := Lib.hid (HV4.out.fr hf5); have HF5 := Lib.hid (HF4.out.trans hf5)
            obtain ⟨j1, hj1⟩ : ∃ j1, 0 = j1 := ⟨_, rfl⟩
            obtain ⟨f1, hf1⟩ : ∃ f1, f + j = f1 := ⟨_, rfl⟩
            rw [hj1, hf1] at hA5
            have HA5 := Lib.hid hA5
            have HS1 : Hid ((f1 : Int) + (j1 : Int) = sm) := Lib.hid (by have := HSM.out; omega)
            clear hj1 hf1 hA5 hf5
            have hs1 : ((f1 : Int) + (j1 : Int) != sm) = false := by have := HS1.out; simp; omega
            have f1a : (0 : Int) ≤ (f1 : Int) := by omega
            have j1a : (0 : Int) ≤ (j1 : Int) := by omega
            have fj : (f1 : Int) + (j1 : Int) ≤ 40000 := by have := HS1.out; have := HSB.out; omega
            have f1b : ¬ (f1 : Int) < 0 := by omega
            have j1b : ¬ (j1 : Int) < 0 := by omega
            go_wp2_with fail
            refine (c_VFuel HV5.out HA5.out).mono ?_
            rintro e w6 ⟨rfl, hb6⟩
            have HV6 := Lib.hid (HV5.out.next hb6); have HA6 := Lib.hid (HA5.out.next hb6); have HF6 := Lib.hid (HF5.out.next hb6)
            clear hb6
            go_wp2_with fail
            refine (c_VTicks HV6.out HA6.out).mono ?_
            rintro e w7 ⟨rfl, hb7⟩
            have HV7 := Lib.hid (HV6.out.next hb7); have HA7 := Lib.hid (HA6.out.next hb7); have HF7 := Lib.hid (HF6.out.next hb7)
            clear hb7
            go_wp2_with fail
            refine (c_VFuel HV7.out HA7.out).mono ?_
            rintro e w8 ⟨rfl, hb8⟩
            have HV8 := Lib.hid (HV7.out.next hb8); have HA8 := Lib.hid (HA7.out.next hb8); have HF8 := Lib.hid (HF7.out.next hb8)
            clear hb8
            go_wp2_with fail
            refine (c_VTicks HV8.out HA8.out).mono ?_
            rintro e w9 ⟨rfl, hb9⟩
            have HA9 := Lib.hid (HA8.out.next hb9); have HF9 := Lib.hid (HF8.out.next hb9)
            clear hb9
            go_wp2_with fail
            exact ⟨⟨i + 1, sm, j1, f1, by omega, by go_num, rfl, by have := HS1.out; have := HSM.out; omega, by have := HSB.out; push_cast; omega, HA9.out, HF9.out⟩, by simp [intOf]; omega⟩
          · go_wp2_with fail
            have hb5 : Below wr.heap.size wr wr := Below.refl _ _
            have HV5 := Lib.hid (HV4.out.next hb5); have HF5 := Lib.hid (HF4.out.next hb5); have HA5 := Lib.hid (HA4.out.next hb5)
            obtain ⟨j1, hj1⟩ : ∃ j1, j = j1 := ⟨_, rfl⟩
            obtain ⟨f1, hf1⟩ : ∃ f1, f = f1 := ⟨_, rfl⟩
            rw [hj1, hf1] at HA5
            have HS1 : Hid ((f1 : Int) + (j1 : Int) = sm) := Lib.hid (by have := HSM.out; omega)
            clear hj1 hf1 hb5
            have hs1 : ((f1 : Int) + (j1 : Int) != sm) = false := by have := HS1.out; simp; omega
            have f1a : (0 : Int) ≤ (f1 : Int) := by omega
            have j1a : (0 : Int) ≤ (j1 : Int) := by omega
            have fj : (f1 : Int) + (j1 : Int) ≤ 40000 := by have := HS1.out; have := HSB.out; omega
            have f1b : ¬ (f1 : Int) < 0 := by omega
            have j1b : ¬ (j1 : Int) < 0 := by omega
            go_wp2_with fail
            refine (c_VFuel HV5.out HA5.out).mono ?_
            rintro e w6 ⟨rfl, hb6⟩
            have HV6 := Lib.hid (HV5.out.next hb6); have HA6 := Lib.hid (HA5.out.next hb6); have HF6 := Lib.hid (HF5.out.next hb6)
            clear hb6
            go_wp2_with fail
            refine (c_VTicks HV6.out HA6.out).mono ?_
            rintro e w7 ⟨rfl, hb7⟩
            have HV7 := Lib.hid (HV6.out.next hb7); have HA7 := Lib.hid (HA6.out.next hb7); have HF7 := Lib.hid (HF6.out.next hb7)
            clear hb7
            go_wp2_with fail
            refine (c_VFuel HV7.out HA7.out).mono ?_
            rintro e w8 ⟨rfl, hb8⟩
            have HV8 := Lib.hid (HV7.out.next hb8); have HA8 := Lib.hid (HA7.out.next hb8); have HF8 := Lib.hid (HF7.out.next hb8)
            clear hb8
            go_wp2_with fail
            refine (c_VTicks HV8.out HA8.out).mono ?_
            rintro e w9 ⟨rfl, hb9⟩
            have HA9 := Lib.hid (HA8.out.next hb9); have HF9 := Lib.hid (HF8.out.next hb9)
            clear hb9
            go_wp2_with fail
            exact ⟨⟨i + 1, sm, j1, f1, by omega, by go_num, rfl, by have := HS1.out; have := HSM.out; omega, by have := HSB.out; push_cast; omega, HA9.out, HF9.out⟩, by simp [intOf]; omega⟩
        · replace hmod : (ob : Int).tmod 5 = 3 := by rw [hmod, hr]; rfl
          clear hr
          go_wp2_with fail
          refine (c_VAddOk HV4.out HA4.out ob (by have := HSM.out; have := HSB.out; omega) (by have := HSM.out; have := HSB.out; omega)).mono ?_
          rintro e w5 ⟨rfl, hA5, hf5⟩
          have HV5 := Lib.hid (HV4.out.fr hf5); have HF5 := Lib.hid (HF4.out.trans hf5)
          obtain ⟨j1, hj1⟩ : ∃ j1, j = j1 := ⟨_, rfl⟩
          obtain ⟨f1, hf1⟩ : ∃ f1, f + ob = f1 := ⟨_, rfl⟩
          rw [hj1, hf1] at hA5
          have HA5 := Lib.hid hA5
          have HS1 : Hid ((f1 : Int) + (j1 : Int) = (sm + (ob : Int))) := Lib.hid (by have := HSM.out; omega)
          clear hj1 hf1 hA5 hf5
          have hs1 : ((f1 : Int) + (j1 : Int) != (sm + (ob : Int))) = false := by have := HS1.out; simp; omega
          have f1a : (0 : Int) ≤ (f1 : Int) := by omega
          have j1a : (0 : Int) ≤ (j1 : Int) := by omega
          have fj : (f1 : Int) + (j1 : Int) ≤ 40000 := by have := HS1.out; have := HSB.out; omega
          have f1b : ¬ (f1 : Int) < 0 := by omega
          have j1b : ¬ (j1 : Int) < 0 := by omega
          go_wp2_with fail
          refine (c_VFuel HV5.out HA5.out).mono ?_
          rintro e w6 ⟨rfl, hb6⟩
          have HV6 := Lib.hid (HV5.out.next hb6); have HA6 := Lib.hid (HA5.out.next hb6); have HF6 := Lib.hid (HF5.out.next hb6)
          clear hb6
          go_wp2_with fail
          refine (c_VTicks HV6.out HA6.out).mono ?_
          rintro e w7 ⟨rfl, hb7⟩
          have HV7 := Lib.hid (HV6.out.next hb7); have HA7 := Lib.hid (HA6.out.next hb7); have HF7 := Lib.hid (HF6.out.next hb7)
          clear hb7
          go_wp2_with fail
          refine (c_VFuel HV7.out HA7.out).mono ?_
          rintro e w8 ⟨rfl, hb8⟩
          have HV8 := Lib.hid (HV7.out.next hb8); have HA8 := Lib.hid (HA7.out.next hb8); have HF8 := Lib.hid (HF7.out.next hb8)
          clear hb8
          go_wp2_with fail
          refine (c_VTicks HV8.out HA8.out).mono ?_
          rintro e w9 ⟨rfl, hb9⟩
          have HA9 := Lib.hid (HA8.out.next hb9); have HF9 := Lib.hid (HF8.out.next hb9)
          clear hb9
          go_wp2_with fail
          exact ⟨⟨i + 1, (sm + (ob : Int)), j1, f1, by omega, by go_num, rfl, by have := HS1.out; have := HSM.out; omega, by have := HSB.out; push_cast; omega, HA9.out, HF9.out⟩, by simp [intOf]; omega⟩
        · replace hmod : (ob : Int).tmod 5 = 4 := by rw [hmod, hr]; rfl
          clear hr
          by_cases h3 : f = 0
          · subst h3
            go_wp2_with fail
            refine (c_VStep0 HV4.out HA4.out).mono ?_
            rintro e w5 ⟨rfl, hb5⟩
            have HV5 := Lib.hid (HV4.out.next hb5); have HF5 := Lib.hid (HF4.out.next hb5); have HA5 := Lib.hid (HA4.out.next hb5)
            obtain ⟨j1, hj1⟩ : ∃ j1, j = j1 := ⟨_, rfl⟩
            obtain ⟨f1, hf1⟩ : ∃ f1, 0 = f1 := ⟨_, rfl⟩
            rw [hj1, hf1] at HA5
            have HS1 : Hid ((f1 : Int) + (j1 : Int) = sm) := Lib.hid (by have := HSM.out; omega)
            clear hj1 hf1 hb5
            have hs1 : ((f1 : Int) + (j1 : Int) != sm) = false := by have := HS1.out; simp; omega
            have f1a : (0 : Int) ≤ (f1 : Int) := by omega
            have j1a : (0 : Int) ≤ (j1 : Int) := by omega
            have fj : (f1 : Int) + (j1 : Int) ≤ 40000 := by have := HS1.out; have := HSB.out; omega
            have f1b : ¬ (f1 : Int) < 0 := by omega
            have j1b : ¬ (j1 : Int) < 0 := by omega
            go_wp2_with fail
            refine (c_VFuel HV5.out HA5.out).mono ?_
            rintro e w6 ⟨rfl, hb6⟩
            have HV6 := Lib.hid (HV5.out.next hb6); have HA6 := Lib.hid (HA5.out.next hb6); have HF6 := Lib.hid (HF5.out.next hb6)
            clear hb6
            go_wp2_with fail
            refine (c_VTicks HV6.out HA6.out).mono ?_
            rintro e w7 ⟨rfl, hb7⟩
            have HV7 := Lib.hid (HV6.out.next hb7); have HA7 := Lib.hid (HA6.out.next hb7); have HF7 := Lib.hid (HF6.out.next hb7)
            clear hb7
            go_wp2_with fail
            refine (c_VFuel HV7.out HA7.out).mono ?_
            rintro e w8 ⟨rfl, hb8⟩
            have HV8 := Lib.hid (HV7.out.next hb8); have HA8 := Lib.hid (HA7.out.next hb8); have HF8 := Lib.hid (HF7.out.next hb8)
            clear hb8
            go_wp2_with fail
            refine (c_VTicks HV8.out HA8.out).mono ?_
            rintro e w9 ⟨rfl, hb9⟩
            have HA9 := Lib.hid (HA8.out.next hb9); have HF9 := Lib.hid (HF8.out.next hb9)
            clear hb9
            go_wp2_with fail
            exact ⟨⟨i + 1, sm, j1, f1, by omega, by go_num, rfl, by have := HS1.out; have := HSM.out; omega, by have := HSB.out; push_cast; omega, HA9.out, HF9.out⟩, by simp [intOf]; omega⟩
          · obtain ⟨ff, rfl⟩ : ∃ ff, f = ff + 1 := ⟨f - 1, by omega⟩
            by_cases h4 : te im.code M j = 0
            · go_wp2_with fail
              refine (c_VStepOk HV4.out HVE.out (by have := HSM.out; have := HSB.out; omega) (by have := HSM.out; have := HSB.out; omega) (by have := HSM.out; have := HSB.out; omega) HA4.out h4).mono ?_
              rintro e w5 ⟨rfl, hA5, hf5⟩
              have HV5 := Lib.hid (HV4.out.fr hf5); have HF5 := Lib.hid (HF4.out.trans hf5)
              obtain ⟨j1, hj1⟩ : ∃ j1, j + 1 = j1 := ⟨_, rfl⟩
              obtain ⟨f1, hf1⟩ : ∃ f1, ff = f1 := ⟨_, rfl⟩
              rw [hj1, hf1] at hA5
              have HA5 := Lib.hid hA5
              have HS1 : Hid ((f1 : Int) + (j1 : Int) = sm) := Lib.hid (by have := HSM.out; omega)
              clear hj1 hf1 hA5 hf5
              have hs1 : ((f1 : Int) + (j1 : Int) != sm) = false := by have := HS1.out; simp; omega
              have f1a : (0 : Int) ≤ (f1 : Int) := by omega
              have j1a : (0 : Int) ≤ (j1 : Int) := by omega
              have fj : (f1 : Int) + (j1 : Int) ≤ 40000 := by have := HS1.out; have := HSB.out; omega
              have f1b : ¬ (f1 : Int) < 0 := by omega
              have j1b : ¬ (j1 : Int) < 0 := by omega
              go_wp2_with fail
              refine (c_VFuel HV5.out HA5.out).mono ?_
              rintro e w6 ⟨rfl, hb6⟩
              have HV6 := Lib.hid (HV5.out.next hb6); have HA6 := Lib.hid (HA5.out.next hb6); have HF6 := Lib.hid (HF5.out.next hb6)
              clear hb6
              go_wp2_with fail
              refine (c_VTicks HV6.out HA6.out).mono ?_
              rintro e w7 ⟨rfl, hb7⟩
              have HV7 := Lib.hid (HV6.out.next hb7); have HA7 := Lib.hid (HA6.out.next hb7); have HF7 := Lib.hid (HF6.out.next hb7)
              clear hb7
              go_wp2_with fail
              refine (c_VFuel HV7.out HA7.out).mono ?_
              rintro e w8 ⟨rfl, hb8⟩
              have HV8 := Lib.hid (HV7.out.next hb8); have HA8 := Lib.hid (HA7.out.next hb8); have HF8 := Lib.hid (HF7.out.next hb8)
              clear hb8
              go_wp2_with fail
              refine (c_VTicks HV8.out HA8.out).mono ?_
              rintro e w9 ⟨rfl, hb9⟩
              have HA9 := Lib.hid (HA8.out.next hb9); have HF9 := Lib.hid (HF8.out.next hb9)
              clear hb9
              go_wp2_with fail
              exact ⟨⟨i + 1, sm, j1, f1, by omega, by go_num, rfl, by have := HS1.out; have := HSM.out; omega, by have := HSB.out; push_cast; omega, HA9.out, HF9.out⟩, by simp [intOf]; omega⟩
            · have hs := c_VStepErr HV4.out HVE.out (j := j) (f := ff) (by have := HSM.out; have := HSB.out; omega) (by have := HSM.out; have := HSB.out; omega) (by have := HSM.out; have := HSB.out; omega) HA4.out h4
              generalize te im.code M j = ee at *
              have HSS := Lib.hid hs
              clear hs
              go_wp2_with fail
              refine (HSS.out).mono ?_
              rintro e w5 ⟨rfl, hA5, hf5⟩
              have HV5 := Lib.hid (HV4.out.fr hf5); have HF5 := Lib.hid (HF4.out.trans hf5)
              obtain ⟨j1, hj1⟩ : ∃ j1, j = j1 := ⟨_, rfl⟩
              obtain ⟨f1, hf1⟩ : ∃ f1, ff + 1 = f1 := ⟨_, rfl⟩
              rw [hj1, hf1] at hA5
              have HA5 := Lib.hid hA5
              have HS1 : Hid ((f1 : Int) + (j1 : Int) = sm) := Lib.hid (by have := HSM.out; omega)
              clear hj1 hf1 hA5 hf5
              have hs1 : ((f1 : Int) + (j1 : Int) != sm) = false := by have := HS1.out; simp; omega
              have f1a : (0 : Int) ≤ (f1 : Int) := by omega
              have j1a : (0 : Int) ≤ (j1 : Int) := by omega
              have fj : (f1 : Int) + (j1 : Int) ≤ 40000 := by have := HS1.out; have := HSB.out; omega
              have f1b : ¬ (f1 : Int) < 0 := by omega
              have j1b : ¬ (j1 : Int) < 0 := by omega
              go_wp2_with fail
              refine (c_VFuel HV5.out HA5.out).mono ?_
              rintro e w6 ⟨rfl, hb6⟩
              have HV6 := Lib.hid (HV5.out.next hb6); have HA6 := Lib.hid (HA5.out.next hb6); have HF6 := Lib.hid (HF5.out.next hb6)
              clear hb6
              go_wp2_with fail
              refine (c_VTicks HV6.out HA6.out).mono ?_
              rintro e w7 ⟨rfl, hb7⟩
              have HV7 := Lib.hid (HV6.out.next hb7); have HA7 := Lib.hid (HA6.out.next hb7); have HF7 := Lib.hid (HF6.out.next hb7)
              clear hb7
              go_wp2_with fail
              refine (c_VFuel HV7.out HA7.out).mono ?_
              rintro e w8 ⟨rfl, hb8⟩
              have HV8 := Lib.hid (HV7.out.next hb8); have HA8 := Lib.hid (HA7.out.next hb8); have HF8 := Lib.hid (HF7.out.next hb8)
              clear hb8
              go_wp2_with fail
              refine (c_VTicks HV8.out HA8.out).mono ?_
              rintro e w9 ⟨rfl, hb9⟩
              have HA9 := Lib.hid (HA8.out.next hb9); have HF9 := Lib.hid (HF8.out.next hb9)
              clear hb9
              go_wp2_with fail
              exact ⟨⟨i + 1, sm, j1, f1, by omega, by go_num, rfl, by have := HS1.out; have := HSM.out; omega, by have := HSB.out; push_cast; omega, HA9.out, HF9.out⟩, by simp [intOf]; omega⟩
      · obtain rfl : i = l.length := by omega
        go_wp2_with fail
        go_ret
        exact ⟨rfl, BEL.out _ HF4.out⟩
end Go.Proofs.YtmdjpmfkghjlhaaDoor
