/- The walk of the law DebuggerRuns. -/
import Derived.Test.YtfpcblgkcbfdoaaDoorDbY
import Derived.Test.YtfpcblgkcbfdoaaDoorVmZ
import Derived.Test.YtfpcblgkcbfdoaaDoorVmY
set_option linter.unusedVariables false
set_option linter.unusedSimpArgs false
set_option maxRecDepth 100000
namespace Go.Proofs.YtfpcblgkcbfdoaaDoor
open Go.RowKit Bk
set_option maxHeartbeats 16000000 in
theorem c_lawDebuggerRuns (A : Option Addr) (n cap : Nat) (im : Img) (M : Mach) (vm vs vc vi vo : Value) (sv : List Value) (w : World) (hC : Rd w (· < w.heap.size) 5 A n (codeCells im.code)) (hw : CodeWf im.code) (hL : MLs w (· < w.heap.size) M vm vs vc vi vo sv) (hwf : MWf M) (hl : ∀ l ∈ M.s, l.length ≤ 17592186043904) (hTab : TableAt w) (x : Nat) (hx : x ≤ 255) :
    Calls Tryd.prog 10 #[.agg #[.slice A n cap, .int .i64 im.mem, .int .i64 im.stacks], .agg (mcells M vm vs vc vi vo).toArray, .int .u8 (x : Int)] w fun e w' => e = .returned (.bool true) ∧ Below w.heap.size w w' := by
  obtain ⟨v, hv⟩ : ∃ v, okD im M = v := ⟨_, rfl⟩
  have HOK := Lib.hid hv; clear hv
  have hwx : IntKind.i64.wrap (x : Int) = (x : Int) := wrap_small _ (by omega) (by omega)
  have hnn : n = im.code.length := by have := hC.1; rw [codeCells_length] at this; omega
  have HC := Lib.hid hC; have HT := Lib.hid hTab; have HL := Lib.hid hL; have HLL := Lib.hid hl; have HN := Lib.hid hnn; have HWF := Lib.hid hwf
  clear hC hTab hL hl hnn hwf
  go_enter Tryd.func10, Tryd.ntmps10
  go_upto_region 1 with fail
  refine wp_nameY ?_
  intro w1 hw1
  have hB_w1 : Below w.heap.size w w1 := by rw [hw1]; exact (by repeat' (first | (with_reducible assumption) | (with_reducible exact Below.refl _ _) | (with_reducible refine Below.alloc ?_ ?_ _) | (with_reducible refine Bk.drewN_ ?_ _) | (with_reducible refine Below.drew ?_) | (with_reducible refine Below.setCell ?_ ?_ _) | go_size))
  have K_1 : Blk w1 w.heap.size 24 #[.slice A n cap, .int .i64 im.mem, .int .i64 im.stacks] := by rw [hw1]; exact (by repeat' (first | with_reducible assumption | (refine Blk.new' ?_ _ _; simp; done) | refine Blk.alloc ?_ _ | refine Blk.drewN ?_ _ | refine Blk.drew ?_))
  have KM : Blk w1 (w.heap.size + 1) 30 (mcells M vm vs vc vi vo).toArray := by rw [hw1]; exact (by repeat' (first | with_reducible assumption | (refine Blk.new' ?_ _ _; simp; done) | refine Blk.alloc ?_ _ | refine Blk.drewN ?_ _ | refine Blk.drew ?_))
  have HM := Lib.hid ((HL.out.next hB_w1).at_ KM)
  have zz : w1.heap.size = w.heap.size + 2 := by rw [hw1]; simp
  clear hw1 KM
  obtain ⟨z_1, T_1, F_1⟩ := K_1.open_; have H_1 := Lib.hid K_1; clear K_1
  go_wp2_with fail
  refine (c_awake33 _ (HT.out.next hB_w1)).mono ?_
  rintro e w2 ⟨rfl, hb2⟩
  have hB_w2 := hB_w1.next hb2
  replace HM := Lib.hid (HM.out.next hb2)
  have K_1 : Blk w2 (w.heap.size) 24 #[.slice A n cap, .int .i64 im.mem, .int .i64 im.stacks] := Blk.next (by repeat' (first | with_reducible exact H_1.out | with_reducible exact K0_1 | (refine Blk.new' ?_ _ _; simp; done) | with_reducible refine Blk.alloc ?_ _ | with_reducible refine Blk.drewN ?_ _ | with_reducible refine Blk.drew ?_)) hb2; (try clear H_1); (try clear T_1); (try clear z_1); (try clear F_1); obtain ⟨z_1, T_1, F_1⟩ := K_1.open_; have H_1 := Lib.hid K_1; clear K_1
  have z2 := hb2.size
  clear hb2
  go_wp2_with (refine wpList_loadG 30 rfl rfl rfl (load_mach HM.out) ?_; simp only [Act.put, List.setIfInBounds_toArray, List.set_cons_succ, List.set_cons_zero])
  cases v with
  | false =>
    refine (c_MadeNone A n cap im M vm vs vc vi vo sv w2 (Rd.upL HC.out hB_w2) hw (MLs.up HL.out hB_w2) HWF.out HLL.out (HT.out.next hB_w2) HOK.out).mono ?_
    rintro e w3 ⟨rfl, hb3⟩
    have hB_w3 := hB_w2.next hb3
    clear hb3
    go_wp2_with fail
    go_ret
    exact ⟨rfl, hB_w3⟩
  | true =>
    refine (c_MadeOk A n cap im M vm vs vc vi vo sv w2 (Rd.upL HC.out hB_w2) hw (MLs.up HL.out hB_w2) HWF.out HLL.out (HT.out.next hB_w2) HOK.out).mono ?_
    rintro e w3 ⟨P, A', n', cap', rfl, hV, hA, hO, hfx, hR, hb3⟩
    have hB_w3 := hB_w2.next hb3
    replace HM := Lib.hid (HM.out.next hb3)
    have K_1 : Blk w3 (w.heap.size) 24 #[.slice A n cap, .int .i64 im.mem, .int .i64 im.stacks] := Blk.next (by repeat' (first | with_reducible exact H_1.out | with_reducible exact K0_1 | (refine Blk.new' ?_ _ _; simp; done) | with_reducible refine Blk.alloc ?_ _ | with_reducible refine Blk.drewN ?_ _ | with_reducible refine Blk.drew ?_)) hb3; (try clear H_1); (try clear T_1); (try clear z_1); (try clear F_1); obtain ⟨z_1, T_1, F_1⟩ := K_1.open_; have H_1 := Lib.hid K_1; clear K_1
    obtain ⟨hg, hck, hf⟩ := okD.facts HOK.out
    have hsm := Sm25.of hg
    have HVE : Hid (VEnv im M 256) := Lib.hid (VEnv.sm hsm hck hw HWF.out hf (by decide))
    have HSM := Lib.hid hsm
    have HV := Lib.hid hV; have HA := Lib.hid hA; have HO := Lib.hid hO; have HFX := Lib.hid hfx; have HR := Lib.hid hR
    have z3 := hb3.size
    have zb2 := hB_w2.size
    have BEL : Hid (∀ wz, Fr P.O w3 wz → Below w.heap.size w wz) := Lib.hid fun wz hf => hB_w3.trans (hf.below (B := w.heap.size) (by omega) (fun k hk => by have := (hO k hk).1; omega))
    have HNO : Hid (∀ k, k < w2.heap.size → ¬ P.O k) := Lib.hid fun k hk ho => by have := (hO k ho).1; omega
    have HM3 := Lib.hid HM.out
    have H3_1 := Lib.hid H_1.out
    clear hV hA hO hfx hR hb3 hg hck hf hsm HM
    obtain ⟨hg, hck, hf⟩ := okD.facts HOK.out
    have HCK := Lib.hid hck
    have HFIT := Lib.hid (Fit.of HWF.out hf)
    have HMB := Lib.hid (HVE.out.bd 0 (by omega))
    have hms : M.s.length ≤ 1000000 := by have := HSM.out.s; omega
    have hcl : M.calls.length ≤ 17592186044400 := by have := HSM.out.k; omega
    clear hg hck hf
    go_wp2_with (refine wpList_loadG 30 rfl rfl rfl (load_mach HM3.out) ?_; simp only [Act.put, List.setIfInBounds_toArray, List.set_cons_succ, List.set_cons_zero])
    refine (show Calls Tryd.prog 28 #[_, _, .int .i64 (x : Int)] w3 _ from c_VNewOk A n cap im M vm vs vc vi vo sv w3 (Rd.upL HC.out hB_w3) hw (MLs.up HL.out hB_w3) hms hcl (HT.out.next hB_w3) HCK.out HFIT.out HMB.out x (by omega)).mono ?_
    rintro e w4 ⟨Q, A2, n2, cap2, rfl, hVq, hAq, hQO, hfxq, hRq, hb4⟩
    have z34 := hb4.size
    have HW4 := Lib.hid hVq; have HB4 := Lib.hid hAq; have HS4 := Lib.hid hRq; have HQF := Lib.hid hfxq
    have HM4 := Lib.hid (HM3.out.next hb4)
    obtain ⟨P2, hP2⟩ : ∃ P2 : Pl, P2 = { P with fx := fun k => k < w2.heap.size ∨ (w3.heap.size ≤ k ∧ k < w4.heap.size) } := ⟨_, rfl⟩
    have HA4 : Hid (DAt w4 P2 im.code M 0) := Lib.hid (by rw [hP2]; exact HA.out.foreign hb4 (fun k hk => hk.elim (fun h => .inl (by rw [HFX.out]; exact h)) fun h => .inr h.1) (fun k hk => hk.elim (fun h => by omega) fun h => h.2))
    have HV4 : Hid (VFx w4 P2 A' n' cap' im) := Lib.hid (by rw [hP2]; exact (HV.out.next hb4).pl _)
    have hPO2 : ∀ k, P2.O k → w2.heap.size ≤ k ∧ k < w3.heap.size := fun k hk => HO.out k (by rw [hP2] at hk; exact hk)
    have hbp : P.b = P2.b := by rw [hP2]
    have HR4 : Hid (Rd w4 (fun k => w2.heap.size ≤ k ∧ k < w3.heap.size ∧ ¬ P2.O k) 5 A' n' (codeCells im.code)) := Lib.hid (by rw [hP2]; exact HR.out.keep (fun b o hd => hb4.cell (p := ⟨b, o, none⟩) hd.2.1))
    have HPX : Hid (∀ k, w3.heap.size ≤ k → k < w4.heap.size → P2.fx k) := Lib.hid (fun k h1 h2 => by rw [hP2]; exact .inr ⟨h1, h2⟩)
    rw [hbp]
    have hw2 : w.heap.size + 2 ≤ w2.heap.size := by omega
    have hgt : 0 < w.heap.size := HT.out.lt
    have HPQ : Hid (∀ k, P2.O k → k < w3.heap.size ∧ ¬ Q.O k ∧ Q.fx k ∧ k ≠ 0) := Lib.hid (fun k hk => ⟨(hPO2 k hk).2, fun h => by have := (hQO k h).1; have := (hPO2 k hk).2; omega, by rw [HQF.out]; exact (hPO2 k hk).2, by have := (hPO2 k hk).1; omega⟩)
    have HQP : Hid (∀ k, Q.O k → w3.heap.size ≤ k ∧ ¬ P2.O k ∧ P2.fx k ∧ k ≠ 0) := Lib.hid (fun k hk => ⟨(hQO k hk).1, fun h => by have := (hQO k hk).1; have := (hPO2 k h).2; omega, HPX.out k (hQO k hk).1 (hQO k hk).2, by have := (hQO k hk).1; omega⟩)
    have hB_w4 : Below w.heap.size w w4 := hB_w3.next hb4
    have BEL4 : Hid (∀ wz, Fr (fun k => w2.heap.size ≤ k) w4 wz → Below w.heap.size w wz) := Lib.hid fun wz hf => hB_w4.trans (hf.below (B := w.heap.size) (by have := hB_w4.size; omega) (fun k hk => by omega))
    have HOP : Hid (∀ k, P2.O k → w2.heap.size ≤ k) := Lib.hid fun k hk => (hPO2 k hk).1
    have HOQ : Hid (∀ k, Q.O k → w2.heap.size ≤ k) := Lib.hid fun k hk => by have := (hQO k hk).1; omega
    clear hP2 hbp hPO2 hQO hgt hVq hAq hRq hfxq hb4 T_1 z_1 F_1 H_1
    obtain ⟨N, hN⟩ : ∃ N, runV im.code M x 0 = N := ⟨_, rfl⟩
    have hNx : N ≤ x := by rw [← hN]; exact runV_le _ _ _ _
    have hs := c_VRun (j := 0) (f := x) HW4.out HVE.out (by omega) (by omega) (by omega) HB4.out
    rw [hN, Nat.zero_add] at hs
    generalize endE im.code M (x - N) N = ee at hs
    have HSS := Lib.hid hs
    clear hs hN
    go_wp2_with fail
    refine HSS.out.mono ?_
    rintro e w5 ⟨rfl, hB5, hf5⟩
    have HRN := Lib.hid hB5.2
    have HW5 := Lib.hid (HW4.out.fr hf5); have HB5 := Lib.hid hB5
    have HS5 := Lib.hid (Rd.frR HS4.out (Nat.le_refl _) hf5 (fun k h1 h2 h3 => h3))
    have HV5 := Lib.hid (HV4.out.other HR4.out (by omega) hf5 (fun k h1 h2 h => by have := (HQP.out k h).1; omega) (fun h => (HQP.out _ h).2.2.2 rfl))
    have HA5 := Lib.hid (HA4.out.other hf5 (fun h => (HQP.out _ h).2.1 (.inl rfl)) (fun h => (HQP.out _ h).2.1 (.inr (.inl rfl))) (fun h => (HQP.out _ h).2.1 (.inr (.inr rfl))) (fun k hk => (HQP.out k hk).2.2.1))
    have HR5 := Lib.hid (Rd.frR HR4.out (by omega) hf5 (fun k h1 h2 h3 h => by have := (HQP.out k h).1; omega))
    have HF5 := Lib.hid ((Fr.refl (fun k => w2.heap.size ≤ k) w4).trans (hf5.mono HOQ.out))
    have HM5 := Lib.hid (HM4.out.fr hf5 (fun h => by have := (HQP.out _ h).1; omega) (fun k hk h => by have := (HQP.out _ h).1; omega))
    have z5 := hf5.size
    clear hB5 hf5
    go_wp2_with fail
    refine (c_SeekOk HV5.out HVE.out (j := 0) (t := N) (by omega) (by omega) (by omega) (by omega) HRN.out HA5.out).mono ?_
    rintro e w6 ⟨rfl, hA6, hf6⟩
    have HV6 := Lib.hid (HV5.out.fr hf6); have HA6 := Lib.hid hA6
    have HW6 := Lib.hid (HW5.out.other HS5.out (by omega) hf6 (fun k h1 h2 h => by have := (HPQ.out k h).1; omega) (fun h => (HPQ.out _ h).2.2.2 rfl))
    have HB6 := Lib.hid (HB5.out.other hf6 (fun h => (HPQ.out _ h).2.1 (.inl rfl)) (fun h => (HPQ.out _ h).2.1 (.inr (.inl rfl))) (fun h => (HPQ.out _ h).2.1 (.inr (.inr rfl))) (fun k hk => (HPQ.out k hk).2.2.1))
    have HS6 := Lib.hid (Rd.frR HS5.out (by omega) hf6 (fun k h1 h2 h3 h => by have := (HPQ.out k h).1; omega))
    have HF6 := Lib.hid (HF5.out.trans (hf6.mono HOP.out))
    have HM6 := Lib.hid (HM5.out.fr hf6 (fun h => by have := HOP.out _ h; omega) (fun k hk h => by have := HOP.out _ h; omega))
    have z6 := hf6.size
    clear hA6 hf6
    go_upto_region 11 with fail
    have hD : Below w6.heap.size w6 w6.drew := (Below.refl _ _).drew
    refine wp_region_held_drew (S := fun W => Fr P2.O w6 W) (by kernel_rfl) ((Fr.refl _ _).drew) (fun hH => ?_)
    refine wpAnyH_take (i := 0) (v := ?_) rfl (by kernel_rfl) (by kernel_rfl) (by kernel_rfl) (fun _ _ _ h => h) (Or.inl ⟨by rfl, ?hy⟩) hH ?_
    case hy => (intro w9_ hS9; clear hS9; go_simp; try with_reducible rfl)
    (try simp only [List.getElem_toArray, List.getElem_cons_zero, List.getElem_cons_succ, Act.put, List.setIfInBounds_toArray, List.set_cons_zero, List.set_cons_succ])
    refine wpAnyH_take (i := 1) (v := ?_) rfl (by kernel_rfl) (by kernel_rfl) (by kernel_rfl) (fun _ _ _ h => h) (Or.inl ⟨by rfl, ?hy⟩) hH ?_
    case hy => (intro w9_ hS9; clear hS9; go_simp; try with_reducible rfl)
    (try simp only [List.getElem_toArray, List.getElem_cons_zero, List.getElem_cons_succ, Act.put, List.setIfInBounds_toArray, List.set_cons_zero, List.set_cons_succ])
    refine wpAnyH_take (i := 2) (v := ?_) rfl (by kernel_rfl) (by kernel_rfl) (by kernel_rfl) (fun _ _ _ h => h) (Or.inl ⟨by rfl, ?hy⟩) hH ?_
    case hy => (intro w9_ hS9; clear hS9; go_simp; try with_reducible rfl)
    (try simp only [List.getElem_toArray, List.getElem_cons_zero, List.getElem_cons_succ, Act.put, List.setIfInBounds_toArray, List.set_cons_zero, List.set_cons_succ])
    refine wpAnyH_take (i := 3) (v := ?_) rfl (by kernel_rfl) (by kernel_rfl) (by kernel_rfl) (fun _ _ _ h => h) (Or.inl ⟨by rfl, ?hy⟩) hH ?_
    case hy => (intro w9_ hS9; clear hS9; go_simp; try with_reducible rfl)
    (try simp only [List.getElem_toArray, List.getElem_cons_zero, List.getElem_cons_succ, Act.put, List.setIfInBounds_toArray, List.set_cons_zero, List.set_cons_succ])
    refine wpAnyH_take (i := 5) (v := ?_) rfl (by kernel_rfl) (by kernel_rfl) (by kernel_rfl) (fun _ _ _ h => h) (Or.inl ⟨by rfl, ?hy⟩) hH ?_
    case hy => (intro w9_ hS9; clear hS9; go_simp; try with_reducible rfl)
    (try simp only [List.getElem_toArray, List.getElem_cons_zero, List.getElem_cons_succ, Act.put, List.setIfInBounds_toArray, List.set_cons_zero, List.set_cons_succ])
    refine wpAnyH_ready (rs := [4]) (by kernel_rfl) (by simp) ?_
    refine AllReadyH.cons rfl (fun K hK => ?_) (AllReadyH.nil)
    go_simp
    refine (c_DMachine (HV6.out.next hD) HVE.out (j := N) (by omega) (HA6.out.next hD)).mono ?_
    rintro e w7 ⟨vm7, vs7, vc7, vi7, vo7, sv7, rfl, hO7, hb7⟩
    have HO7 := Lib.hid hO7
    replace hH := hH.next hb7; replace hD := hD.next hb7
    clear hO7 hb7
    refine hK.out _ _ hH (fun _ => ?_)
    clear hK
    (try simp only [List.getElem_toArray, List.getElem_cons_zero, List.getElem_cons_succ, Act.put, List.setIfInBounds_toArray, List.set_cons_zero, List.set_cons_succ])
    refine wpAnyH_ready (rs := [6]) (by kernel_rfl) (by simp) ?_
    refine AllReadyH.cons rfl (fun K hK => ?_) (AllReadyH.nil)
    go_simp
    refine (c_VMachine (HW6.out.next hD) HVE.out (j := N) (by omega) (HB6.out.next hD)).mono ?_
    rintro e w8 ⟨vm8, vs8, vc8, vi8, vo8, sv8, rfl, hO8, hb8⟩
    have HO8 := Lib.hid hO8
    replace HO7 := Lib.hid (HO7.out.next hb8)
    replace hH := hH.next hb8; replace hD := hD.next hb8
    clear hO8 hb8
    refine hK.out _ _ hH (fun _ => ?_)
    clear hK
    (try simp only [List.getElem_toArray, List.getElem_cons_zero, List.getElem_cons_succ, Act.put, List.setIfInBounds_toArray, List.set_cons_zero, List.set_cons_succ])
    refine wpAnyH_ready (rs := [7]) (by kernel_rfl) (by simp) ?_
    refine AllReadyH.cons rfl (fun K hK => ?_) (AllReadyH.nil)
    go_simp
    refine (c_same33 HO7.out.mls HO8.out.mls (HVE.out.bd N (by omega))).mono ?_
    rintro e w9 ⟨rfl, hb9⟩
    replace hH := hH.next hb9; replace hD := hD.next hb9
    clear hb9
    refine hK.out _ _ hH (fun _ => ?_)
    clear hK
    (try simp only [List.getElem_toArray, List.getElem_cons_zero, List.getElem_cons_succ, Act.put, List.setIfInBounds_toArray, List.set_cons_zero, List.set_cons_succ])
    refine wpAnyH_take (i := 8) (v := ?_) rfl (by kernel_rfl) (by kernel_rfl) (by kernel_rfl) (fun _ _ _ h => h) (Or.inl ⟨by rfl, ?hy⟩) hH ?_
    case hy => (intro w9_ hS9; clear hS9; go_simp; try with_reducible rfl)
    (try simp only [List.getElem_toArray, List.getElem_cons_zero, List.getElem_cons_succ, Act.put, List.setIfInBounds_toArray, List.set_cons_zero, List.set_cons_succ])
    refine wpAnyH_take (i := 9) (v := ?_) rfl (by kernel_rfl) (by kernel_rfl) (by kernel_rfl) (fun _ _ _ h => h) (Or.inl ⟨by rfl, ?hy⟩) hH ?_
    case hy => (intro w9_ hS9; clear hS9; go_simp; try with_reducible rfl)
    (try simp only [List.getElem_toArray, List.getElem_cons_zero, List.getElem_cons_succ, Act.put, List.setIfInBounds_toArray, List.set_cons_zero, List.set_cons_succ])
    refine wpAnyH_take (i := 10) (v := ?_) rfl (by kernel_rfl) (by kernel_rfl) (by kernel_rfl) (fun _ _ _ h => h) (Or.inl ⟨by rfl, ?hy⟩) hH ?_
    case hy => (intro w9_ hS9; clear hS9; go_simp; try with_reducible rfl)
    (try simp only [List.getElem_toArray, List.getElem_cons_zero, List.getElem_cons_succ, Act.put, List.setIfInBounds_toArray, List.set_cons_zero, List.set_cons_succ])
    refine wpAnyH_ready (rs := [11]) (by kernel_rfl) (by simp) ?_
    refine AllReadyH.cons rfl (fun K hK => ?_) (AllReadyH.nil)
    go_simp
    refine (show Calls Tryd.prog 13 #[_, .int .i64 0] _ _ from c_SeekOk (HV6.out.next hD) HVE.out (j := N) (t := 0) (by omega) (by omega) (by omega) (by omega) (Ran.zero _ _) (HA6.out.next hD)).mono ?_
    rintro e w10 ⟨rfl, hA10, hf10⟩
    replace hH := hH.trans hf10
    have HA10 := Lib.hid hA10; have HV10 := Lib.hid (HV6.out.fr hH)
    have hD2 := Below.refl w10.heap.size w10
    clear hA10 hf10 hD
    refine hK.out _ _ hH (fun _ => ?_)
    clear hK
    (try simp only [List.getElem_toArray, List.getElem_cons_zero, List.getElem_cons_succ, Act.put, List.setIfInBounds_toArray, List.set_cons_zero, List.set_cons_succ])
    refine wpAnyH_take (i := 12) (v := ?_) rfl (by kernel_rfl) (by kernel_rfl) (by kernel_rfl) (fun _ _ _ h => h) (Or.inl ⟨by rfl, ?hy⟩) hH ?_
    case hy => (intro w9_ hS9; clear hS9; go_simp; try with_reducible rfl)
    (try simp only [List.getElem_toArray, List.getElem_cons_zero, List.getElem_cons_succ, Act.put, List.setIfInBounds_toArray, List.set_cons_zero, List.set_cons_succ])
    refine wpAnyH_take (i := 13) (v := ?_) rfl (by kernel_rfl) (by kernel_rfl) (by kernel_rfl) (fun _ _ _ h => h) (Or.inl ⟨by rfl, ?hy⟩) hH ?_
    case hy => (intro w9_ hS9; clear hS9; go_simp; try with_reducible rfl)
    (try simp only [List.getElem_toArray, List.getElem_cons_zero, List.getElem_cons_succ, Act.put, List.setIfInBounds_toArray, List.set_cons_zero, List.set_cons_succ])
    refine wpAnyH_take (i := 14) (v := ?_) rfl (by kernel_rfl) (by kernel_rfl) (by kernel_rfl) (fun _ _ _ h => h) (Or.inl ⟨by rfl, ?hy⟩) hH ?_
    case hy => (intro w9_ hS9; clear hS9; go_simp; try with_reducible rfl)
    (try simp only [List.getElem_toArray, List.getElem_cons_zero, List.getElem_cons_succ, Act.put, List.setIfInBounds_toArray, List.set_cons_zero, List.set_cons_succ])
    refine wpAnyH_take (i := 15) (v := ?_) rfl (by kernel_rfl) (by kernel_rfl) (by kernel_rfl) (fun _ _ _ h => h) (Or.inl ⟨by rfl, ?hy⟩) hH ?_
    case hy => (intro w9_ hS9; clear hS9; go_simp; try with_reducible rfl)
    (try simp only [List.getElem_toArray, List.getElem_cons_zero, List.getElem_cons_succ, Act.put, List.setIfInBounds_toArray, List.set_cons_zero, List.set_cons_succ])
    refine wpAnyH_take (i := 17) (v := _) rfl (by kernel_rfl) (by kernel_rfl) (by kernel_rfl) (fun _ _ _ h => h) (Or.inl ⟨by rfl, yields_load 30 (x := .tmp 4) rfl rfl (fun W hW => load_mach (HM6.out.fr hW (fun h => by have := HOP.out _ h; omega) (fun k hk h => by have := HOP.out _ h; omega)))⟩) hH ?_
    (try simp only [List.getElem_toArray, List.getElem_cons_zero, List.getElem_cons_succ, Act.put, List.setIfInBounds_toArray, List.set_cons_zero, List.set_cons_succ])
    refine wpAnyH_ready (rs := [16]) (by kernel_rfl) (by simp) ?_
    refine AllReadyH.cons rfl (fun K hK => ?_) (AllReadyH.nil)
    go_simp
    refine (c_DMachine (HV10.out.next hD2) HVE.out (j := 0) (by omega) (HA10.out.next hD2)).mono ?_
    rintro e w11 ⟨vm11, vs11, vc11, vi11, vo11, sv11, rfl, hO11, hb11⟩
    have HO11 := Lib.hid hO11
    replace hH := hH.next hb11; replace hD2 := hD2.next hb11
    clear hO11 hb11
    refine hK.out _ _ hH (fun _ => ?_)
    clear hK
    (try simp only [List.getElem_toArray, List.getElem_cons_zero, List.getElem_cons_succ, Act.put, List.setIfInBounds_toArray, List.set_cons_zero, List.set_cons_succ])
    refine wpAnyH_ready (rs := [18]) (by kernel_rfl) (by simp) ?_
    refine AllReadyH.cons rfl (fun K hK => ?_) (AllReadyH.nil)
    go_simp
    refine (c_same33 HO11.out.mls (HL.out.keep (D' := (· < w.heap.size)) (fun b o hd => (BEL4.out _ (HF6.out.trans (hH.mono HOP.out))).cell (p := ⟨b, o, none⟩) hd) (fun _ h => h) (fun k hk => Nat.lt_of_lt_of_le hk (BEL4.out _ (HF6.out.trans (hH.mono HOP.out))).size)) (HVE.out.bd 0 (by omega))).mono ?_
    rintro e w12 ⟨rfl, hb12⟩
    replace hH := hH.next hb12
    clear hb12
    refine hK.out _ _ hH (fun _ => ?_)
    clear hK
    (try simp only [List.getElem_toArray, List.getElem_cons_zero, List.getElem_cons_succ, Act.put, List.setIfInBounds_toArray, List.set_cons_zero, List.set_cons_succ])
    refine wpAnyH_take (i := 19) (v := ?_) rfl (by kernel_rfl) (by kernel_rfl) (by kernel_rfl) (fun _ _ _ h => h) (Or.inl ⟨by rfl, ?hy⟩) hH ?_
    case hy => (intro w9_ hS9; clear hS9; go_simp; try with_reducible rfl)
    (try simp only [List.getElem_toArray, List.getElem_cons_zero, List.getElem_cons_succ, Act.put, List.setIfInBounds_toArray, List.set_cons_zero, List.set_cons_succ])
    refine wpAnyH_take (i := 20) (v := ?_) rfl (by kernel_rfl) (by kernel_rfl) (by kernel_rfl) (fun _ _ _ h => h) (Or.inl ⟨by rfl, ?hy⟩) hH ?_
    case hy => (intro w9_ hS9; clear hS9; go_simp; try with_reducible rfl)
    (try simp only [List.getElem_toArray, List.getElem_cons_zero, List.getElem_cons_succ, Act.put, List.setIfInBounds_toArray, List.set_cons_zero, List.set_cons_succ])
    refine wpAnyH_done (by kernel_rfl) ?_ _
    go_wp2_with fail
    go_ret
    exact ⟨rfl, BEL4.out _ (HF6.out.trans (hH.mono HOP.out))⟩
theorem c_lawDebuggerRunsI (A : Option Addr) (n cap : Nat) (im : Img) (M : Mach) (vm vs vc vi vo : Value) (sv : List Value) (w : World) (hC : Rd w (· < w.heap.size) 5 A n (codeCells im.code)) (hw : CodeWf im.code) (hL : MLs w (· < w.heap.size) M vm vs vc vi vo sv) (hwf : MWf M) (hl : ∀ l ∈ M.s, l.length ≤ 17592186043904) (hTab : TableAt w) (st : Int) (st0 : 0 ≤ st) (st1 : st ≤ 255) :
    Calls Tryd.prog 10 #[.agg #[.slice A n cap, .int .i64 im.mem, .int .i64 im.stacks], .agg (mcells M vm vs vc vi vo).toArray, .int .u8 st] w fun e w' => e = .returned (.bool true) ∧ Below w.heap.size w w' := by
  obtain ⟨x, rfl⟩ := Int.eq_ofNat_of_zero_le st0
  exact c_lawDebuggerRuns A n cap im M vm vs vc vi vo sv w hC hw hL hwf hl hTab x (by omega)
end Go.Proofs.YtfpcblgkcbfdoaaDoor
