/- The walk of the law VmReturns. -/
import Derived.Test.YtmdjpmfkghjlhaaDoorVmZ
set_option linter.unusedVariables false
set_option linter.unusedSimpArgs false
set_option maxRecDepth 100000
namespace Go.Proofs.YtmdjpmfkghjlhaaDoor
open Go.RowKit Bk
set_option maxHeartbeats 8000000 in
theorem c_lawVmReturns (A : Option Addr) (n cap : Nat) (im : Img) (M : Mach) (vm vs vc vi vo : Value) (sv : List Value) (w : World) (hC : Rd w (· < w.heap.size) 5 A n (codeCells im.code)) (hw : CodeWf im.code) (hL : MLs w (· < w.heap.size) M vm vs vc vi vo sv) (hwf : MWf M) (hl : ∀ l ∈ M.s, l.length ≤ 281474976710656) (hTab : TableAt w) (x : Nat) (hx : x ≤ 255) :
    Calls Tryd.prog 9 #[.agg #[.slice A n cap, .int .i64 im.mem, .int .i64 im.stacks], .agg (mcells M vm vs vc vi vo).toArray, .int .u8 (x : Int)] w fun e w' => e = .returned (.bool true) ∧ Below w.heap.size w w' := by
  obtain ⟨v, hv⟩ : ∃ v, okV im M (x : Int) = v := ⟨_, rfl⟩
  have HOK := Lib.hid hv; clear hv
  have hnn : n = im.code.length := by have := hC.1; rw [codeCells_length] at this; omega
  have HC := Lib.hid hC; have HT := Lib.hid hTab; have HL := Lib.hid hL; have HLL := Lib.hid hl; have HN := Lib.hid hnn; have HWF := Lib.hid hwf
  clear hC hTab hL hl hnn hwf
  go_enter Tryd.func9, Tryd.ntmps9
  go_upto_region 1 with fail
  refine wp_nameY ?_
  intro w1 hw1
  have hB_w1 : Below w.heap.size w w1 := by rw [hw1]; exact (by repeat' (first | (with_reducible assumption) | (with_reducible exact Below.refl _ _) | (with_reducible refine Below.alloc ?_ ?_ _) | (with_reducible refine Bk.drewN_ ?_ _) | (with_reducible refine Below.drew ?_) | (with_reducible refine Below.setCell ?_ ?_ _) | go_size))
  have K_1 : Blk w1 w.heap.size 24 #[.slice A n cap, .int .i64 im.mem, .int .i64 im.stacks] := by rw [hw1]; exact (by repeat' (first | with_reducible assumption | (refine Blk.new' ?_ _ _; simp; done) | refine Blk.alloc ?_ _ | refine Blk.drewN ?_ _ | refine Blk.drew ?_))
  have KM : Blk w1 (w.heap.size + 1) 30 (mcells M vm vs vc vi vo).toArray := by rw [hw1]; exact (by repeat' (first | with_reducible assumption | (refine Blk.new' ?_ _ _; simp; done) | refine Blk.alloc ?_ _ | refine Blk.drewN ?_ _ | refine Blk.drew ?_))
  have HM := Lib.hid ((HL.out.next hB_w1).at_ KM)
  have zz : w1.heap.size = w.heap.size + 2 := by rw [hw1]; simp
  clear hw1 KM
  obtain ⟨z_1, T_1, F_1⟩ := K_1.open_; have H_1 := Lib.hid K_1; clear K_1
  go_wp2_with fail
  refine (c_awake25 _ (HT.out.next hB_w1)).mono ?_
  rintro e w2 ⟨rfl, hb2⟩
  have hB_w2 := hB_w1.next hb2
  replace HM := Lib.hid (HM.out.next hb2)
  have K_1 : Blk w2 (w.heap.size) 24 #[.slice A n cap, .int .i64 im.mem, .int .i64 im.stacks] := Blk.next (by repeat' (first | with_reducible exact H_1.out | with_reducible exact K0_1 | (refine Blk.new' ?_ _ _; simp; done) | with_reducible refine Blk.alloc ?_ _ | with_reducible refine Blk.drewN ?_ _ | with_reducible refine Blk.drew ?_)) hb2; (try clear H_1); (try clear T_1); (try clear z_1); (try clear F_1); obtain ⟨z_1, T_1, F_1⟩ := K_1.open_; have H_1 := Lib.hid K_1; clear K_1
  have z2 := hb2.size
  clear hb2
  go_wp2_with (refine wpList_loadG 30 rfl rfl rfl (load_mach HM.out) ?_; simp only [Act.put, List.setIfInBounds_toArray, List.set_cons_succ, List.set_cons_zero])
  cases v with
  | false =>
    refine (c_madeNone A n cap im M vm vs vc vi vo sv w2 (Rd.upL HC.out hB_w2) hw (MLs.up HL.out hB_w2) HWF.out HLL.out (HT.out.next hB_w2) x HOK.out).mono ?_
    rintro e w3 ⟨rfl, hb3⟩
    have hB_w3 := hB_w2.next hb3
    clear hb3
    go_wp2_with fail
    go_ret
    exact ⟨rfl, hB_w3⟩
  | true =>
    refine (show Calls Tryd.prog 16 #[_, _, .int .i64 x] w2 _ from c_madeOk A n cap im M vm vs vc vi vo sv w2 (Rd.upL HC.out hB_w2) hw (MLs.up HL.out hB_w2) HWF.out HLL.out (HT.out.next hB_w2) x HOK.out).mono ?_
    rintro e w3 ⟨P, A', n', cap', rfl, hV, hA, hO, hfx, hR, hb3⟩
    have hB_w3 := hB_w2.next hb3
    replace HM := Lib.hid (HM.out.next hb3)
    have K_1 : Blk w3 (w.heap.size) 24 #[.slice A n cap, .int .i64 im.mem, .int .i64 im.stacks] := Blk.next (by repeat' (first | with_reducible exact H_1.out | with_reducible exact K0_1 | (refine Blk.new' ?_ _ _; simp; done) | with_reducible refine Blk.alloc ?_ _ | with_reducible refine Blk.drewN ?_ _ | with_reducible refine Blk.drew ?_)) hb3; (try clear H_1); (try clear T_1); (try clear z_1); (try clear F_1); obtain ⟨z_1, T_1, F_1⟩ := K_1.open_; have H_1 := Lib.hid K_1; clear K_1
    obtain ⟨hg, hck, hf, hx0, hx1⟩ := okV.facts HOK.out
    have hsm := Sm25.of hg
    have HVE : Hid (VEnv im M 300) := Lib.hid (VEnv.sm hsm hck hw HWF.out hf (by decide))
    have HSM := Lib.hid hsm
    have HV := Lib.hid hV; have HA := Lib.hid hA; have HO := Lib.hid hO; have HFX := Lib.hid hfx; have HR := Lib.hid hR
    have z3 := hb3.size
    have zb2 := hB_w2.size
    have BEL : Hid (∀ wz, Fr P.O w3 wz → Below w.heap.size w wz) := Lib.hid fun wz hf => hB_w3.trans (hf.below (B := w.heap.size) (by omega) (fun k hk => by have := (hO k hk).1; omega))
    have HNO : Hid (∀ k, k < w2.heap.size → ¬ P.O k) := Lib.hid fun k hk ho => by have := (hO k ho).1; omega
    have HM3 := Lib.hid HM.out
    have H3_1 := Lib.hid H_1.out
    clear hV hA hO hfx hR hb3 hg hck hf hx0 hx1 hsm HM
    clear T_1 z_1 F_1 H_1
    obtain ⟨N, hN⟩ : ∃ N, runV im.code M x 0 = N := ⟨_, rfl⟩
    have hNx : N ≤ x := by rw [← hN]; exact runV_le _ _ _ _
    obtain ⟨ee, hee⟩ : ∃ ee, endE im.code M (x - N) (0 + N) = ee := ⟨_, rfl⟩
    go_wp2_with fail
    have hs := c_VRun (j := 0) (f := x) HV.out HVE.out (by omega) (by omega) (by omega) HA.out
    rw [hN, hee, Nat.zero_add] at hs
    refine hs.mono ?_
    rintro e w4 ⟨rfl, hA4, hf4⟩
    have HV4 := Lib.hid (HV.out.fr hf4); have HA4 := Lib.hid hA4; have HF4 := Lib.hid hf4
    have z4 := hf4.size
    clear hs hA4 hf4 hN hee
    go_wp2_with fail
    refine (c_VRunBack HV4.out HVE.out (j := N) (f := x - N) (by omega) (by omega) (by omega) HA4.out (fun k hk => by have := (HO.out k hk).2; omega)).mono ?_
    rintro e w5 ⟨rfl, hA5, hf5⟩
    rw [Nat.sub_add_cancel hNx] at hA5
    have HV5 := Lib.hid (HV4.out.fr hf5); have HA5 := Lib.hid hA5; have HF5 := Lib.hid (HF4.out.trans hf5)
    have z5 := hf5.size
    clear hA5 hf5
    go_wp2_with fail
    refine (show Calls Tryd.prog 23 #[_] w5 _ from c_VRunBack HV5.out HVE.out (j := 0) (f := x) (by omega) (by omega) (by omega) HA5.out (fun k hk => by have := (HO.out k hk).2; omega)).mono ?_
    rintro e w6 ⟨rfl, hA6, hf6⟩
    rw [Nat.add_zero] at hA6
    have HV6 := Lib.hid (HV5.out.fr hf6); have HA6 := Lib.hid hA6; have HF6 := Lib.hid (HF5.out.trans hf6)
    have HM6 := Lib.hid (HM3.out.fr HF6.out (HNO.out _ (by omega)) (fun k hk => HNO.out _ (by omega)))
    clear hA6 hf6
    have hwx : IntKind.i64.wrap (x : Int) = (x : Int) := wrap_small _ (by omega) (by omega)
    go_upto_region 9 with fail
    refine wp_region_held_drew (S := fun W => Below w6.heap.size w6 W) (by kernel_rfl) ((Below.refl _ _).drew) (fun hH => ?_)
    refine wpAnyH_take (i := 0) (v := ?_) rfl (by kernel_rfl) (by kernel_rfl) (by kernel_rfl) (fun _ _ _ h => h) (Or.inl ⟨by rfl, ?hy⟩) hH ?_
    case hy => (intro w9_ hS9; clear hS9; go_simp; try with_reducible rfl)
    (try simp only [List.getElem_toArray, List.getElem_cons_zero, List.getElem_cons_succ, Act.put, List.setIfInBounds_toArray, List.set_cons_zero, List.set_cons_succ])
    refine wpAnyH_take (i := 1) (v := ?_) rfl (by kernel_rfl) (by kernel_rfl) (by kernel_rfl) (fun _ _ _ h => h) (Or.inl ⟨by rfl, ?hy⟩) hH ?_
    case hy => (intro w9_ hS9; clear hS9; go_simp; try with_reducible rfl)
    (try simp only [List.getElem_toArray, List.getElem_cons_zero, List.getElem_cons_succ, Act.put, List.setIfInBounds_toArray, List.set_cons_zero, List.set_cons_succ])
    refine wpAnyH_take (i := 2) (v := ?_) rfl (by kernel_rfl) (by kernel_rfl) (by kernel_rfl) (fun _ _ _ h => h) (Or.inl ⟨by rfl, ?hy⟩) hH ?_
    case hy => (intro w9_ hS9; clear hS9; go_simp; try with_reducible rfl)
    (try simp only [List.getElem_toArray, List.getElem_cons_zero, List.getElem_cons_succ, Act.put, List.setIfInBounds_toArray, List.set_cons_zero, List.set_cons_succ])
    refine wpAnyH_take (i := 3) (v := ?_) rfl (by kernel_rfl) (by kernel_rfl) (by kernel_rfl) (fun _ _ _ h => h) (Or.inl ⟨by rfl, ?hy⟩) hH ?_
    case hy => (intro w9_ hS9; clear hS9; go_simp; try with_reducible rfl)
    (try simp only [List.getElem_toArray, List.getElem_cons_zero, List.getElem_cons_succ, Act.put, List.setIfInBounds_toArray, List.set_cons_zero, List.set_cons_succ])
    refine wpAnyH_take (i := 4) (v := ?_) rfl (by kernel_rfl) (by kernel_rfl) (by kernel_rfl) (fun _ _ _ h => h) (Or.inl ⟨by rfl, ?hy⟩) hH ?_
    case hy => (intro w9_ hS9; clear hS9; go_simp; try with_reducible rfl)
    (try simp only [List.getElem_toArray, List.getElem_cons_zero, List.getElem_cons_succ, Act.put, List.setIfInBounds_toArray, List.set_cons_zero, List.set_cons_succ])
    refine wpAnyH_take (i := 5) (v := ?_) rfl (by kernel_rfl) (by kernel_rfl) (by kernel_rfl) (fun _ _ _ h => h) (Or.inl ⟨by rfl, ?hy⟩) hH ?_
    case hy => (intro w9_ hS9; clear hS9; go_simp; try with_reducible rfl)
    (try simp only [List.getElem_toArray, List.getElem_cons_zero, List.getElem_cons_succ, Act.put, List.setIfInBounds_toArray, List.set_cons_zero, List.set_cons_succ])
    refine wpAnyH_take (i := 6) (v := ?_) rfl (by kernel_rfl) (by kernel_rfl) (by kernel_rfl) (fun _ _ _ h => h) (Or.inl ⟨by rfl, ?hy⟩) hH ?_
    case hy => (intro w9_ hS9; clear hS9; go_simp; try with_reducible rfl)
    (try simp only [List.getElem_toArray, List.getElem_cons_zero, List.getElem_cons_succ, Act.put, List.setIfInBounds_toArray, List.set_cons_zero, List.set_cons_succ])
    refine wpAnyH_take (i := 7) (v := ?_) rfl (by kernel_rfl) (by kernel_rfl) (by kernel_rfl) (fun _ _ _ h => h) (Or.inl ⟨by rfl, ?hy⟩) hH ?_
    case hy => (intro w9_ hS9; clear hS9; go_simp; try with_reducible rfl)
    (try simp only [List.getElem_toArray, List.getElem_cons_zero, List.getElem_cons_succ, Act.put, List.setIfInBounds_toArray, List.set_cons_zero, List.set_cons_succ])
    refine wpAnyH_take (i := 8) (v := ?_) rfl (by kernel_rfl) (by kernel_rfl) (by kernel_rfl) (fun _ _ _ h => h) (Or.inl ⟨by rfl, ?hy⟩) hH ?_
    case hy => (intro w9_ hS9; clear hS9; go_simp; try with_reducible rfl)
    (try simp only [List.getElem_toArray, List.getElem_cons_zero, List.getElem_cons_succ, Act.put, List.setIfInBounds_toArray, List.set_cons_zero, List.set_cons_succ])
    refine wpAnyH_take (i := 9) (v := ?_) rfl (by kernel_rfl) (by kernel_rfl) (by kernel_rfl) (fun _ _ _ h => h) (Or.inl ⟨by rfl, ?hy⟩) hH ?_
    case hy => (intro w9_ hS9; clear hS9; go_simp; try with_reducible rfl)
    (try simp only [List.getElem_toArray, List.getElem_cons_zero, List.getElem_cons_succ, Act.put, List.setIfInBounds_toArray, List.set_cons_zero, List.set_cons_succ])
    refine wpAnyH_take (i := 10) (v := ?_) rfl (by kernel_rfl) (by kernel_rfl) (by kernel_rfl) (fun _ _ _ h => h) (Or.inl ⟨by rfl, ?hy⟩) hH ?_
    case hy => (intro w9_ hS9; clear hS9; go_simp; try with_reducible rfl)
    (try simp only [List.getElem_toArray, List.getElem_cons_zero, List.getElem_cons_succ, Act.put, List.setIfInBounds_toArray, List.set_cons_zero, List.set_cons_succ])
    refine wpAnyH_take (i := 11) (v := ?_) rfl (by kernel_rfl) (by kernel_rfl) (by kernel_rfl) (fun _ _ _ h => h) (Or.inl ⟨by rfl, ?hy⟩) hH ?_
    case hy => (intro w9_ hS9; clear hS9; go_simp; try with_reducible rfl)
    (try simp only [List.getElem_toArray, List.getElem_cons_zero, List.getElem_cons_succ, Act.put, List.setIfInBounds_toArray, List.set_cons_zero, List.set_cons_succ])
    refine wpAnyH_take (i := 12) (v := ?_) rfl (by kernel_rfl) (by kernel_rfl) (by kernel_rfl) (fun _ _ _ h => h) (Or.inl ⟨by rfl, ?hy⟩) hH ?_
    case hy => (intro w9_ hS9; clear hS9; go_simp; try with_reducible rfl)
    (try simp only [List.getElem_toArray, List.getElem_cons_zero, List.getElem_cons_succ, Act.put, List.setIfInBounds_toArray, List.set_cons_zero, List.set_cons_succ])
    refine wpAnyH_take (i := 13) (v := ?_) rfl (by kernel_rfl) (by kernel_rfl) (by kernel_rfl) (fun _ _ _ h => h) (Or.inl ⟨by rfl, ?hy⟩) hH ?_
    case hy => (intro w9_ hS9; clear hS9; go_simp; try with_reducible rfl)
    (try simp only [List.getElem_toArray, List.getElem_cons_zero, List.getElem_cons_succ, Act.put, List.setIfInBounds_toArray, List.set_cons_zero, List.set_cons_succ])
    refine wpAnyH_take (i := 14) (v := ?_) rfl (by kernel_rfl) (by kernel_rfl) (by kernel_rfl) (fun _ _ _ h => h) (Or.inl ⟨by rfl, ?hy⟩) hH ?_
    case hy => (intro w9_ hS9; clear hS9; go_simp; try with_reducible rfl)
    (try simp only [List.getElem_toArray, List.getElem_cons_zero, List.getElem_cons_succ, Act.put, List.setIfInBounds_toArray, List.set_cons_zero, List.set_cons_succ])
    refine wpAnyH_take (i := 15) (v := ?_) rfl (by kernel_rfl) (by kernel_rfl) (by kernel_rfl) (fun _ _ _ h => h) (Or.inl ⟨by rfl, ?hy⟩) hH ?_
    case hy => (intro w9_ hS9; clear hS9; go_simp; try with_reducible rfl)
    (try simp only [List.getElem_toArray, List.getElem_cons_zero, List.getElem_cons_succ, Act.put, List.setIfInBounds_toArray, List.set_cons_zero, List.set_cons_succ])
    refine wpAnyH_take (i := 16) (v := ?_) rfl (by kernel_rfl) (by kernel_rfl) (by kernel_rfl) (fun _ _ _ h => h) (Or.inl ⟨by rfl, ?hy⟩) hH ?_
    case hy => (intro w9_ hS9; clear hS9; go_simp; try with_reducible rfl)
    (try simp only [List.getElem_toArray, List.getElem_cons_zero, List.getElem_cons_succ, Act.put, List.setIfInBounds_toArray, List.set_cons_zero, List.set_cons_succ])
    refine wpAnyH_take (i := 18) (v := _) rfl (by kernel_rfl) (by kernel_rfl) (by kernel_rfl) (fun _ _ _ h => h) (Or.inl ⟨by rfl, yields_load 30 (x := .tmp 4) rfl rfl (fun W hW => load_mach (HM6.out.next hW))⟩) hH ?_
    (try simp only [List.getElem_toArray, List.getElem_cons_zero, List.getElem_cons_succ, Act.put, List.setIfInBounds_toArray, List.set_cons_zero, List.set_cons_succ])
    refine wpAnyH_ready (rs := [17]) (by kernel_rfl) (by simp) ?_
    refine AllReadyH.cons rfl (fun K hK => ?_) (AllReadyH.nil)
    go_simp
    refine (c_VMachine (HV6.out.next hH) HVE.out (j := 0) (by omega) (HA6.out.next hH)).mono ?_
    rintro e w7 ⟨vm7, vs7, vc7, vi7, vo7, sv7, rfl, hO7, hb7⟩
    have HO7 := Lib.hid hO7
    replace hH := hH.next hb7
    clear hO7 hb7
    refine hK.out _ _ hH (fun _ => ?_)
    clear hK
    (try simp only [List.getElem_toArray, List.getElem_cons_zero, List.getElem_cons_succ, Act.put, List.setIfInBounds_toArray, List.set_cons_zero, List.set_cons_succ])
    refine wpAnyH_ready (rs := [19]) (by kernel_rfl) (by simp) ?_
    refine AllReadyH.cons rfl (fun K hK => ?_) (AllReadyH.nil)
    go_simp
    refine (c_same HO7.out.mls (HL.out.keep (D' := (· < w.heap.size)) (fun b o hd => (BEL.out _ (HF6.out.next hH)).cell (p := ⟨b, o, none⟩) hd) (fun _ h => h) (fun k hk => Nat.lt_of_lt_of_le hk (BEL.out _ (HF6.out.next hH)).size)) (HVE.out.bd 0 (by omega))).mono ?_
    rintro e w8 ⟨rfl, hbw8⟩
    replace hH := hH.next hbw8
    clear hbw8
    refine hK.out _ _ hH (fun _ => ?_)
    clear hK
    (try simp only [List.getElem_toArray, List.getElem_cons_zero, List.getElem_cons_succ, Act.put, List.setIfInBounds_toArray, List.set_cons_zero, List.set_cons_succ])
    refine wpAnyH_take (i := 20) (v := ?_) rfl (by kernel_rfl) (by kernel_rfl) (by kernel_rfl) (fun _ _ _ h => h) (Or.inl ⟨by rfl, ?hy⟩) hH ?_
    case hy => (intro w9_ hS9; clear hS9; go_simp; try with_reducible rfl)
    (try simp only [List.getElem_toArray, List.getElem_cons_zero, List.getElem_cons_succ, Act.put, List.setIfInBounds_toArray, List.set_cons_zero, List.set_cons_succ])
    refine wpAnyH_take (i := 21) (v := ?_) rfl (by kernel_rfl) (by kernel_rfl) (by kernel_rfl) (fun _ _ _ h => h) (Or.inl ⟨by rfl, ?hy⟩) hH ?_
    case hy => (intro w9_ hS9; clear hS9; go_simp; try with_reducible rfl)
    (try simp only [List.getElem_toArray, List.getElem_cons_zero, List.getElem_cons_succ, Act.put, List.setIfInBounds_toArray, List.set_cons_zero, List.set_cons_succ])
    refine wpAnyH_take (i := 22) (v := ?_) rfl (by kernel_rfl) (by kernel_rfl) (by kernel_rfl) (fun _ _ _ h => h) (Or.inl ⟨by rfl, ?hy⟩) hH ?_
    case hy => (intro w9_ hS9; clear hS9; go_simp; try with_reducible rfl)
    (try simp only [List.getElem_toArray, List.getElem_cons_zero, List.getElem_cons_succ, Act.put, List.setIfInBounds_toArray, List.set_cons_zero, List.set_cons_succ])
    refine wpAnyH_take (i := 24) (v := ?_) rfl (by kernel_rfl) (by kernel_rfl) (by kernel_rfl) (fun _ _ _ h => h) (Or.inl ⟨by rfl, ?hy⟩) hH ?_
    case hy => (intro w9_ hS9; clear hS9; go_simp; try with_reducible rfl)
    (try simp only [List.getElem_toArray, List.getElem_cons_zero, List.getElem_cons_succ, Act.put, List.setIfInBounds_toArray, List.set_cons_zero, List.set_cons_succ])
    refine wpAnyH_take (i := 25) (v := ?_) rfl (by kernel_rfl) (by kernel_rfl) (by kernel_rfl) (fun _ _ _ h => h) (Or.inl ⟨by rfl, ?hy⟩) hH ?_
    case hy => (intro w9_ hS9; clear hS9; go_simp; try with_reducible rfl)
    (try simp only [List.getElem_toArray, List.getElem_cons_zero, List.getElem_cons_succ, Act.put, List.setIfInBounds_toArray, List.set_cons_zero, List.set_cons_succ])
    refine wpAnyH_ready (rs := [23]) (by kernel_rfl) (by simp) ?_
    refine AllReadyH.cons rfl (fun K hK => ?_) (AllReadyH.nil)
    go_simp
    refine (c_VFuel (HV6.out.next hH) (HA6.out.next hH)).mono ?_
    rintro e w9 ⟨rfl, hbw9⟩
    replace hH := hH.next hbw9
    clear hbw9
    refine hK.out _ _ hH (fun _ => ?_)
    clear hK
    (try simp only [List.getElem_toArray, List.getElem_cons_zero, List.getElem_cons_succ, Act.put, List.setIfInBounds_toArray, List.set_cons_zero, List.set_cons_succ])
    refine wpAnyH_take (i := 26) (v := ?_) rfl (by kernel_rfl) (by kernel_rfl) (by kernel_rfl) (fun _ _ _ h => h) (Or.inl ⟨by rfl, ?hy⟩) hH ?_
    case hy => (intro w9_ hS9; clear hS9; go_simp; try with_reducible rfl)
    (try simp only [List.getElem_toArray, List.getElem_cons_zero, List.getElem_cons_succ, Act.put, List.setIfInBounds_toArray, List.set_cons_zero, List.set_cons_succ])
    refine wpAnyH_take (i := 27) (v := ?_) rfl (by kernel_rfl) (by kernel_rfl) (by kernel_rfl) (fun _ _ _ h => h) (Or.inl ⟨by rfl, ?hy⟩) hH ?_
    case hy => (intro w9_ hS9; clear hS9; go_simp; try with_reducible rfl)
    (try simp only [List.getElem_toArray, List.getElem_cons_zero, List.getElem_cons_succ, Act.put, List.setIfInBounds_toArray, List.set_cons_zero, List.set_cons_succ])
    refine wpAnyH_take (i := 28) (v := ?_) rfl (by kernel_rfl) (by kernel_rfl) (by kernel_rfl) (fun _ _ _ h => h) (Or.inl ⟨by rfl, ?hy⟩) hH ?_
    case hy => (intro w9_ hS9; clear hS9; go_simp; try with_reducible rfl)
    (try simp only [List.getElem_toArray, List.getElem_cons_zero, List.getElem_cons_succ, Act.put, List.setIfInBounds_toArray, List.set_cons_zero, List.set_cons_succ])
    refine wpAnyH_take (i := 29) (v := ?_) rfl (by kernel_rfl) (by kernel_rfl) (by kernel_rfl) (fun _ _ _ h => h) (Or.inl ⟨by rfl, ?hy⟩) hH ?_
    case hy => (intro w9_ hS9; clear hS9; go_simp; try with_reducible rfl)
    (try simp only [List.getElem_toArray, List.getElem_cons_zero, List.getElem_cons_succ, Act.put, List.setIfInBounds_toArray, List.set_cons_zero, List.set_cons_succ])
    refine wpAnyH_ready (rs := [30]) (by kernel_rfl) (by simp) ?_
    refine AllReadyH.cons rfl (fun K hK => ?_) (AllReadyH.nil)
    go_simp
    refine (c_VTicks (HV6.out.next hH) (HA6.out.next hH)).mono ?_
    rintro e w10 ⟨rfl, hbw10⟩
    replace hH := hH.next hbw10
    clear hbw10
    refine hK.out _ _ hH (fun _ => ?_)
    clear hK
    (try simp only [List.getElem_toArray, List.getElem_cons_zero, List.getElem_cons_succ, Act.put, List.setIfInBounds_toArray, List.set_cons_zero, List.set_cons_succ])
    refine wpAnyH_take (i := 31) (v := ?_) rfl (by kernel_rfl) (by kernel_rfl) (by kernel_rfl) (fun _ _ _ h => h) (Or.inl ⟨by rfl, ?hy⟩) hH ?_
    case hy => (intro w9_ hS9; clear hS9; go_simp; try with_reducible rfl)
    (try simp only [List.getElem_toArray, List.getElem_cons_zero, List.getElem_cons_succ, Act.put, List.setIfInBounds_toArray, List.set_cons_zero, List.set_cons_succ])
    refine wpAnyH_take (i := 32) (v := ?_) rfl (by kernel_rfl) (by kernel_rfl) (by kernel_rfl) (fun _ _ _ h => h) (Or.inl ⟨by rfl, ?hy⟩) hH ?_
    case hy => (intro w9_ hS9; clear hS9; go_simp; try with_reducible rfl)
    (try simp only [List.getElem_toArray, List.getElem_cons_zero, List.getElem_cons_succ, Act.put, List.setIfInBounds_toArray, List.set_cons_zero, List.set_cons_succ])
    refine wpAnyH_take (i := 33) (v := ?_) rfl (by kernel_rfl) (by kernel_rfl) (by kernel_rfl) (fun _ _ _ h => h) (Or.inl ⟨by rfl, ?hy⟩) hH ?_
    case hy => (intro w9_ hS9; clear hS9; go_simp; try with_reducible rfl)
    (try simp only [List.getElem_toArray, List.getElem_cons_zero, List.getElem_cons_succ, Act.put, List.setIfInBounds_toArray, List.set_cons_zero, List.set_cons_succ])
    refine wpAnyH_take (i := 34) (v := ?_) rfl (by kernel_rfl) (by kernel_rfl) (by kernel_rfl) (fun _ _ _ h => h) (Or.inl ⟨by rfl, ?hy⟩) hH ?_
    case hy => (intro w9_ hS9; clear hS9; go_simp; try with_reducible rfl)
    (try simp only [List.getElem_toArray, List.getElem_cons_zero, List.getElem_cons_succ, Act.put, List.setIfInBounds_toArray, List.set_cons_zero, List.set_cons_succ])
    refine wpAnyH_ready (rs := [35]) (by kernel_rfl) (by simp) ?_
    refine AllReadyH.cons rfl (fun K hK => ?_) (AllReadyH.nil)
    go_simp
    refine (c_VBack0 (HV6.out.next hH) (HA6.out.next hH)).mono ?_
    rintro e w11 ⟨rfl, hbw11⟩
    replace hH := hH.next hbw11
    clear hbw11
    refine hK.out _ _ hH (fun _ => ?_)
    clear hK
    (try simp only [List.getElem_toArray, List.getElem_cons_zero, List.getElem_cons_succ, Act.put, List.setIfInBounds_toArray, List.set_cons_zero, List.set_cons_succ])
    refine wpAnyH_take (i := 36) (v := ?_) rfl (by kernel_rfl) (by kernel_rfl) (by kernel_rfl) (fun _ _ _ h => h) (Or.inl ⟨by rfl, ?hy⟩) hH ?_
    case hy => (intro w9_ hS9; clear hS9; go_simp; try with_reducible rfl)
    (try simp only [List.getElem_toArray, List.getElem_cons_zero, List.getElem_cons_succ, Act.put, List.setIfInBounds_toArray, List.set_cons_zero, List.set_cons_succ])
    refine wpAnyH_take (i := 37) (v := ?_) rfl (by kernel_rfl) (by kernel_rfl) (by kernel_rfl) (fun _ _ _ h => h) (Or.inl ⟨by rfl, ?hy⟩) hH ?_
    case hy => (intro w9_ hS9; clear hS9; go_simp; try with_reducible rfl)
    (try simp only [List.getElem_toArray, List.getElem_cons_zero, List.getElem_cons_succ, Act.put, List.setIfInBounds_toArray, List.set_cons_zero, List.set_cons_succ])
    refine wpAnyH_take (i := 38) (v := ?_) rfl (by kernel_rfl) (by kernel_rfl) (by kernel_rfl) (fun _ _ _ h => h) (Or.inl ⟨by rfl, ?hy⟩) hH ?_
    case hy => (intro w9_ hS9; clear hS9; go_simp; try with_reducible rfl)
    (try simp only [List.getElem_toArray, List.getElem_cons_zero, List.getElem_cons_succ, Act.put, List.setIfInBounds_toArray, List.set_cons_zero, List.set_cons_succ])
    refine wpAnyH_done (by kernel_rfl) ?_ _
    go_wp2_with fail
    go_ret
    exact ⟨rfl, BEL.out _ (HF6.out.next hH)⟩
theorem c_lawVmReturnsI (A : Option Addr) (n cap : Nat) (im : Img) (M : Mach) (vm vs vc vi vo : Value) (sv : List Value) (w : World) (hC : Rd w (· < w.heap.size) 5 A n (codeCells im.code)) (hw : CodeWf im.code) (hL : MLs w (· < w.heap.size) M vm vs vc vi vo sv) (hwf : MWf M) (hl : ∀ l ∈ M.s, l.length ≤ 281474976710656) (hTab : TableAt w) (st : Int) (st0 : 0 ≤ st) (st1 : st ≤ 255) :
    Calls Tryd.prog 9 #[.agg #[.slice A n cap, .int .i64 im.mem, .int .i64 im.stacks], .agg (mcells M vm vs vc vi vo).toArray, .int .u8 st] w fun e w' => e = .returned (.bool true) ∧ Below w.heap.size w w' := by
  obtain ⟨x, rfl⟩ := Int.eq_ofNat_of_zero_le st0
  exact c_lawVmReturns A n cap im M vm vs vc vi vo sv w hC hw hL hwf hl hTab x (by omega)
end Go.Proofs.YtmdjpmfkghjlhaaDoor
