/- The walk of the law DebuggerNew. -/
import Derived.Test.YtfpcblgkcbfdoaaDoorDbY
set_option linter.unusedVariables false
set_option linter.unusedSimpArgs false
set_option maxRecDepth 100000
namespace Go.Proofs.YtfpcblgkcbfdoaaDoor
open Go.RowKit Bk
theorem row_set_int33 {w : World} {g i : Nat} {v : Value} {ys : List Int} (h : Row w g v (intCells ys)) (hi : i < ys.length) (z : Int) : Row (w.setCell ⟨g, i, none⟩ (.int .i64 z)) g v (intCells (ys.set i z)) := by
  have h2 := h.set i (by rw [intCells_length]; exact hi) (.int .i64 z)
  rw [show (intCells ys).set i (.int .i64 z) = intCells (ys.set i z) by simp [intCells, List.map_set]] at h2
  exact h2
set_option maxHeartbeats 16000000 in
theorem c_lawDebuggerNew (A : Option Addr) (n cap : Nat) (im : Img) (M : Mach) (vm vs vc vi vo : Value) (sv : List Value) (w : World) (hC : Rd w (· < w.heap.size) 5 A n (codeCells im.code)) (hw : CodeWf im.code) (hL : MLs w (· < w.heap.size) M vm vs vc vi vo sv) (hwf : MWf M) (hl : ∀ l ∈ M.s, l.length ≤ 17592186043904) (hTab : TableAt w) :
    Calls Tryd.prog 4 #[.agg #[.slice A n cap, .int .i64 im.mem, .int .i64 im.stacks], .agg (mcells M vm vs vc vi vo).toArray] w fun e w' => e = .returned (.bool true) ∧ Below w.heap.size w w' := by
  obtain ⟨g, hg⟩ : ∃ g, great25 im M = g := ⟨_, rfl⟩
  obtain ⟨ci, hci⟩ : ∃ ci, im.check.1 = ci := ⟨_, rfl⟩
  obtain ⟨ck, hck⟩ : ∃ ck, im.check.2 = ck := ⟨_, rfl⟩
  obtain ⟨ff, hff⟩ : ∃ ff, fitsB im M = ff := ⟨_, rfl⟩
  have HG := Lib.hid hg; have HCI : Hid (im.check = (ci, ck)) := Lib.hid (Prod.ext hci hck); have HCK := Lib.hid hck; have HFF := Lib.hid hff
  clear hg hci hck hff
  have hnn : n = im.code.length := by have := hC.1; rw [codeCells_length] at this; omega
  have HC := Lib.hid hC; have HT := Lib.hid hTab; have HL := Lib.hid hL; have HLL := Lib.hid hl; have HN := Lib.hid hnn; have HWF := Lib.hid hwf
  clear hC hTab hL hl hnn hwf
  go_enter Tryd.func4, Tryd.ntmps4
  go_upto_region 1 with fail
  refine wp_nameY ?_
  intro w1 hw1
  have hB_w1 : Below w.heap.size w w1 := by rw [hw1]; exact (by repeat' (first | (with_reducible assumption) | (with_reducible exact Below.refl _ _) | (with_reducible refine Below.alloc ?_ ?_ _) | (with_reducible refine Bk.drewN_ ?_ _) | (with_reducible refine Below.drew ?_) | (with_reducible refine Below.setCell ?_ ?_ _) | go_size))
  have K_1 : Blk w1 w.heap.size 24 #[.slice A n cap, .int .i64 im.mem, .int .i64 im.stacks] := by rw [hw1]; exact (by repeat' (first | with_reducible assumption | (refine Blk.new' ?_ _ _; simp; done) | refine Blk.alloc ?_ _ | refine Blk.drewN ?_ _ | refine Blk.drew ?_))
  have KM : Blk w1 (w.heap.size + 1) 30 (mcells M vm vs vc vi vo).toArray := by rw [hw1]; exact (by repeat' (first | with_reducible assumption | (refine Blk.new' ?_ _ _; simp; done) | refine Blk.alloc ?_ _ | refine Blk.drewN ?_ _ | refine Blk.drew ?_))
  have HM := Lib.hid ((HL.out.next hB_w1).at_ KM)
  have zz : w1.heap.size = w.heap.size + 2 := by rw [hw1]; simp
  clear hw1 KM
  obtain ⟨z_1, T_1, F_1⟩ := K_1.open_; have H_1 := Lib.hid K_1; clear K_1
  go_wp2_with fail
  refine (c_awake33 _ (HT.out.next hB_w1)).mono ?_
  rintro e w2 ⟨rfl, hb2⟩
  have hB_w2 := hB_w1.next hb2
  replace HM := Lib.hid (HM.out.next hb2)
  have K_1 : Blk w2 (w.heap.size) 24 #[.slice A n cap, .int .i64 im.mem, .int .i64 im.stacks] := Blk.next (by repeat' (first | with_reducible exact H_1.out | with_reducible exact K0_1 | (refine Blk.new' ?_ _ _; simp; done) | with_reducible refine Blk.alloc ?_ _ | with_reducible refine Blk.drewN ?_ _ | with_reducible refine Blk.drew ?_)) hb2; (try clear H_1); (try clear T_1); (try clear z_1); (try clear F_1); obtain ⟨z_1, T_1, F_1⟩ := K_1.open_; have H_1 := Lib.hid K_1; clear K_1
  have z2 := hb2.size
  clear hb2
  go_wp2_with (refine wpList_loadG 30 rfl rfl rfl (load_mach HM.out) ?_; simp only [Act.put, List.setIfInBounds_toArray, List.set_cons_succ, List.set_cons_zero])
  cases g with
  | true =>
    refine (c_Great25T (HL.out.next hB_w2) A n cap im HN.out HLL.out HG.out).mono ?_
    rintro e w3 ⟨rfl, hb3⟩
    have hB_w3 := hB_w2.next hb3
    clear hb3
    go_wp2_with fail
    go_ret
    exact ⟨rfl, hB_w3⟩
  | false =>
  refine (c_Great25F (HL.out.next hB_w2) A n cap im HN.out HLL.out HG.out).mono ?_
  rintro e w3 ⟨rfl, hb3⟩
  have hB_w3 := hB_w2.next hb3
  replace HM := Lib.hid (HM.out.next hb3)
  have K_1 : Blk w3 (w.heap.size) 24 #[.slice A n cap, .int .i64 im.mem, .int .i64 im.stacks] := Blk.next (by repeat' (first | with_reducible exact H_1.out | with_reducible exact K0_1 | (refine Blk.new' ?_ _ _; simp; done) | with_reducible refine Blk.alloc ?_ _ | with_reducible refine Blk.drewN ?_ _ | with_reducible refine Blk.drew ?_)) hb3; (try clear H_1); (try clear T_1); (try clear z_1); (try clear F_1); obtain ⟨z_1, T_1, F_1⟩ := K_1.open_; have H_1 := Lib.hid K_1; clear K_1
  have z3 := hb3.size
  clear hb3
  have HSM := Lib.hid (Sm25.of HG.out)
  have hn6 : n ≤ 65536 := by have := HSM.out.c; have := HN.out; omega
  have hms : M.s.length ≤ 1000000 := by have := HSM.out.s; omega
  have hcl : M.calls.length ≤ 17592186044400 := by have := HSM.out.k; omega
  go_wp2_with (refine wpList_loadG 30 rfl rfl rfl (load_mach HM.out) ?_; simp only [Act.put, List.setIfInBounds_toArray, List.set_cons_succ, List.set_cons_zero])
  by_cases h0 : ck = 0
  · subst h0
    have hval : im.valid = true := by unfold Img.valid; rw [HCK.out]; rfl
    have HFV : Hid ((im.valid && fitsB im M) = ff) := Lib.hid (by rw [hval, HFF.out]; rfl)
    clear hval
    cases ff with
    | false =>
      refine (c_DNewMis A n cap im M vm vs vc vi vo sv w3 (Rd.upL HC.out hB_w3) hw (MLs.up HL.out hB_w3) hms hcl (HT.out.next hB_w3) HCK.out HFF.out).mono ?_
      rintro e w4 ⟨rfl, hb4⟩
      have hB_w4 := hB_w3.next hb4
      replace HM := Lib.hid (HM.out.next hb4)
      have K_1 : Blk w4 (w.heap.size) 24 #[.slice A n cap, .int .i64 im.mem, .int .i64 im.stacks] := Blk.next (by repeat' (first | with_reducible exact H_1.out | with_reducible exact K0_1 | (refine Blk.new' ?_ _ _; simp; done) | with_reducible refine Blk.alloc ?_ _ | with_reducible refine Blk.drewN ?_ _ | with_reducible refine Blk.drew ?_)) hb4; (try clear H_1); (try clear T_1); (try clear z_1); (try clear F_1); obtain ⟨z_1, T_1, F_1⟩ := K_1.open_; have H_1 := Lib.hid K_1; clear K_1
      have z4 := hb4.size
      clear hb4
      go_wp2_with fail
      refine (c_Check' A n cap im HCI.out _ (Rd.upL HC.out hB_w4) hw (HT.out.next hB_w4)).mono ?_
      rintro e w5 ⟨rfl, hb5⟩
      have hB_w5 := hB_w4.next hb5
      replace HM := Lib.hid (HM.out.next hb5)
      have K_1 : Blk w5 (w.heap.size) 24 #[.slice A n cap, .int .i64 im.mem, .int .i64 im.stacks] := Blk.next (by repeat' (first | with_reducible exact H_1.out | with_reducible exact K0_1 | (refine Blk.new' ?_ _ _; simp; done) | with_reducible refine Blk.alloc ?_ _ | with_reducible refine Blk.drewN ?_ _ | with_reducible refine Blk.drew ?_)) hb5; (try clear H_1); (try clear T_1); (try clear z_1); (try clear F_1); obtain ⟨z_1, T_1, F_1⟩ := K_1.open_; have H_1 := Lib.hid K_1; clear K_1
      have z5 := hb5.size
      clear hb5
      go_wp2_with fail
      refine (c_FitsG HM.out A n cap im HN.out hn6 hms hcl (Rd.upL HC.out hB_w5) hw (HT.out.next hB_w5) HFV.out).mono ?_
      rintro e w6 ⟨rfl, hb6⟩
      have hB_w6 := hB_w5.next hb6
      clear hb6
      go_wp2_with fail
      go_ret
      exact ⟨rfl, hB_w6⟩
    | true =>
      have hfit := Fit.of HWF.out HFF.out
      have hmb : MBd M := MBd.of HCK.out hfit HSM.out.sb (by omega)
      have HFIT := Lib.hid hfit; have HMB := Lib.hid hmb
      clear hfit hmb
      have HVE : Hid (VEnv im M 1) := Lib.hid (VEnv.sm HSM.out HCK.out hw HWF.out HFF.out (by decide))
      refine (c_DNewOk A n cap im M vm vs vc vi vo sv w3 (Rd.upL HC.out hB_w3) hw (MLs.up HL.out hB_w3) hms hcl (HT.out.next hB_w3) HCK.out HFIT.out HMB.out).mono ?_
      rintro e w4 ⟨P, A', n', cap', rfl, hV, hA, hO, hfx, hR, hb4⟩
      have HV := Lib.hid (hV.next (Below.refl _ _)); have HA := Lib.hid hA; have HO := Lib.hid hO; have HFX := Lib.hid hfx; have HR := Lib.hid hR
      clear hV hA hO hfx hR
      have hB_w4 := hB_w3.next hb4
      replace HM := Lib.hid (HM.out.next hb4)
      have K_1 : Blk w4 (w.heap.size) 24 #[.slice A n cap, .int .i64 im.mem, .int .i64 im.stacks] := Blk.next (by repeat' (first | with_reducible exact H_1.out | with_reducible exact K0_1 | (refine Blk.new' ?_ _ _; simp; done) | with_reducible refine Blk.alloc ?_ _ | with_reducible refine Blk.drewN ?_ _ | with_reducible refine Blk.drew ?_)) hb4; (try clear H_1); (try clear T_1); (try clear z_1); (try clear F_1); obtain ⟨z_1, T_1, F_1⟩ := K_1.open_; have H_1 := Lib.hid K_1; clear K_1
      have z4 := hb4.size
      clear hb4
      go_wp2_with fail
      refine (c_Check' A n cap im HCI.out _ (Rd.upL HC.out hB_w4) hw (HT.out.next hB_w4)).mono ?_
      rintro e w5 ⟨rfl, hb5⟩
      have hB_w5 := hB_w4.next hb5
      replace HM := Lib.hid (HM.out.next hb5)
      have K_1 : Blk w5 (w.heap.size) 24 #[.slice A n cap, .int .i64 im.mem, .int .i64 im.stacks] := Blk.next (by repeat' (first | with_reducible exact H_1.out | with_reducible exact K0_1 | (refine Blk.new' ?_ _ _; simp; done) | with_reducible refine Blk.alloc ?_ _ | with_reducible refine Blk.drewN ?_ _ | with_reducible refine Blk.drew ?_)) hb5; (try clear H_1); (try clear T_1); (try clear z_1); (try clear F_1); obtain ⟨z_1, T_1, F_1⟩ := K_1.open_; have H_1 := Lib.hid K_1; clear K_1
      have z5 := hb5.size
      replace HV := Lib.hid (HV.out.next hb5); replace HA := Lib.hid (HA.out.next hb5); replace HR := Lib.hid (HR.out.keep (fun b o hd => hb5.cell (p := ⟨b, o, none⟩) hd.2.1))
      clear hb5
      go_wp2_with fail
      refine (c_FitsG HM.out A n cap im HN.out hn6 hms hcl (Rd.upL HC.out hB_w5) hw (HT.out.next hB_w5) HFV.out).mono ?_
      rintro e w6 ⟨rfl, hb6⟩
      have hB_w6 := hB_w5.next hb6
      replace HM := Lib.hid (HM.out.next hb6)
      have z6 := hb6.size
      replace HV := Lib.hid (HV.out.next hb6); replace HA := Lib.hid (HA.out.next hb6); replace HR := Lib.hid (HR.out.keep (fun b o hd => hb6.cell (p := ⟨b, o, none⟩) (by have := hd.2.1; show b < w5.heap.size; omega)))
      clear hb6 T_1 z_1 F_1 H_1
      go_upto_region 11 with fail
      have BE : Hid (∀ W, Below w6.heap.size w6 W → Below w.heap.size w W) := Lib.hid fun W h => hB_w6.next h
      refine wp_region_held_drew (S := fun W => Below w6.heap.size w6 W) (by kernel_rfl) ((Below.refl _ _).drew) (fun hH => ?_)
      refine wpAnyH_take (i := 0) (v := ?_) rfl (by kernel_rfl) (by kernel_rfl) (by kernel_rfl) (fun _ _ _ h => h) (Or.inl ⟨by rfl, ?hy⟩) hH ?_
      case hy => (intro w9_ hS9; clear hS9; go_simp; try with_reducible rfl)
      (try simp only [List.getElem_toArray, List.getElem_cons_zero, List.getElem_cons_succ, Act.put, List.setIfInBounds_toArray, List.set_cons_zero, List.set_cons_succ])
      refine wpAnyH_take (i := 1) (v := ?_) rfl (by kernel_rfl) (by kernel_rfl) (by kernel_rfl) (fun _ _ _ h => h) (Or.inl ⟨by rfl, ?hy⟩) hH ?_
      case hy => (intro w9_ hS9; clear hS9; go_simp; try with_reducible rfl)
      (try simp only [List.getElem_toArray, List.getElem_cons_zero, List.getElem_cons_succ, Act.put, List.setIfInBounds_toArray, List.set_cons_zero, List.set_cons_succ])
      refine wpAnyH_take (i := 2) (v := ?_) rfl (by kernel_rfl) (by kernel_rfl) (by kernel_rfl) (fun _ _ _ h => h) (Or.inl ⟨by rfl, ?hy⟩) hH ?_
      case hy => (intro w9_ hS9; clear hS9; go_simp; try with_reducible rfl)
      (try simp only [List.getElem_toArray, List.getElem_cons_zero, List.getElem_cons_succ, Act.put, List.setIfInBounds_toArray, List.set_cons_zero, List.set_cons_succ])
      refine wpAnyH_take (i := 3) (v := ?_) rfl (by kernel_rfl) (by kernel_rfl) (by kernel_rfl) (fun _ _ _ h => h) (Or.inl ⟨by rfl, ?hy⟩) hH ?_
      case hy => (intro w9_ hS9; clear hS9; go_simp; try with_reducible rfl)
      (try simp only [List.getElem_toArray, List.getElem_cons_zero, List.getElem_cons_succ, Act.put, List.setIfInBounds_toArray, List.set_cons_zero, List.set_cons_succ])
      refine wpAnyH_take (i := 4) (v := ?_) rfl (by kernel_rfl) (by kernel_rfl) (by kernel_rfl) (fun _ _ _ h => h) (Or.inl ⟨by rfl, ?hy⟩) hH ?_
      case hy => (intro w9_ hS9; clear hS9; go_simp; try with_reducible rfl)
      (try simp only [List.getElem_toArray, List.getElem_cons_zero, List.getElem_cons_succ, Act.put, List.setIfInBounds_toArray, List.set_cons_zero, List.set_cons_succ])
      refine wpAnyH_take (i := 5) (v := ?_) rfl (by kernel_rfl) (by kernel_rfl) (by kernel_rfl) (fun _ _ _ h => h) (Or.inl ⟨by rfl, ?hy⟩) hH ?_
      case hy => (intro w9_ hS9; clear hS9; go_simp; try with_reducible rfl)
      (try simp only [List.getElem_toArray, List.getElem_cons_zero, List.getElem_cons_succ, Act.put, List.setIfInBounds_toArray, List.set_cons_zero, List.set_cons_succ])
      refine wpAnyH_take (i := 6) (v := ?_) rfl (by kernel_rfl) (by kernel_rfl) (by kernel_rfl) (fun _ _ _ h => h) (Or.inl ⟨by rfl, ?hy⟩) hH ?_
      case hy => (intro w9_ hS9; clear hS9; go_simp; try with_reducible rfl)
      (try simp only [List.getElem_toArray, List.getElem_cons_zero, List.getElem_cons_succ, Act.put, List.setIfInBounds_toArray, List.set_cons_zero, List.set_cons_succ])
      refine wpAnyH_take (i := 7) (v := ?_) rfl (by kernel_rfl) (by kernel_rfl) (by kernel_rfl) (fun _ _ _ h => h) (Or.inl ⟨by rfl, ?hy⟩) hH ?_
      case hy => (intro w9_ hS9; clear hS9; go_simp; try with_reducible rfl)
      (try simp only [List.getElem_toArray, List.getElem_cons_zero, List.getElem_cons_succ, Act.put, List.setIfInBounds_toArray, List.set_cons_zero, List.set_cons_succ])
      refine wpAnyH_ready (rs := [8]) (by kernel_rfl) (by simp) ?_
      refine AllReadyH.cons rfl (fun K hK => ?_) (AllReadyH.nil)
      go_simp
      refine (show Calls Tryd.prog _ _ _ (fun e w' => e = .returned (.int .i64 0) ∧ _) from c_DTime (HV.out.next hH) (HA.out.next hH)).mono ?_
      rintro e w7 ⟨rfl, hbw7⟩
      replace hH := hH.next hbw7
      clear hbw7
      refine hK.out _ _ hH (fun _ => ?_)
      clear hK
      (try simp only [List.getElem_toArray, List.getElem_cons_zero, List.getElem_cons_succ, Act.put, List.setIfInBounds_toArray, List.set_cons_zero, List.set_cons_succ])
      refine wpAnyH_take (i := 9) (v := ?_) rfl (by kernel_rfl) (by kernel_rfl) (by kernel_rfl) (fun _ _ _ h => h) (Or.inl ⟨by rfl, ?hy⟩) hH ?_
      case hy => (intro w9_ hS9; clear hS9; go_simp; try with_reducible rfl)
      (try simp only [List.getElem_toArray, List.getElem_cons_zero, List.getElem_cons_succ, Act.put, List.setIfInBounds_toArray, List.set_cons_zero, List.set_cons_succ])
      refine wpAnyH_take (i := 10) (v := ?_) rfl (by kernel_rfl) (by kernel_rfl) (by kernel_rfl) (fun _ _ _ h => h) (Or.inl ⟨by rfl, ?hy⟩) hH ?_
      case hy => (intro w9_ hS9; clear hS9; go_simp; try with_reducible rfl)
      (try simp only [List.getElem_toArray, List.getElem_cons_zero, List.getElem_cons_succ, Act.put, List.setIfInBounds_toArray, List.set_cons_zero, List.set_cons_succ])
      refine wpAnyH_take (i := 11) (v := ?_) rfl (by kernel_rfl) (by kernel_rfl) (by kernel_rfl) (fun _ _ _ h => h) (Or.inl ⟨by rfl, ?hy⟩) hH ?_
      case hy => (intro w9_ hS9; clear hS9; go_simp; try with_reducible rfl)
      (try simp only [List.getElem_toArray, List.getElem_cons_zero, List.getElem_cons_succ, Act.put, List.setIfInBounds_toArray, List.set_cons_zero, List.set_cons_succ])
      refine wpAnyH_take (i := 12) (v := ?_) rfl (by kernel_rfl) (by kernel_rfl) (by kernel_rfl) (fun _ _ _ h => h) (Or.inl ⟨by rfl, ?hy⟩) hH ?_
      case hy => (intro w9_ hS9; clear hS9; go_simp; try with_reducible rfl)
      (try simp only [List.getElem_toArray, List.getElem_cons_zero, List.getElem_cons_succ, Act.put, List.setIfInBounds_toArray, List.set_cons_zero, List.set_cons_succ])
      refine wpAnyH_take (i := 14) (v := _) rfl (by kernel_rfl) (by kernel_rfl) (by kernel_rfl) (fun _ _ _ h => h) (Or.inl ⟨by rfl, yields_load 30 (x := .tmp 3) rfl rfl (fun W hW => load_mach (HM.out.next hW))⟩) hH ?_
      (try simp only [List.getElem_toArray, List.getElem_cons_zero, List.getElem_cons_succ, Act.put, List.setIfInBounds_toArray, List.set_cons_zero, List.set_cons_succ])
      refine wpAnyH_ready (rs := [13]) (by kernel_rfl) (by simp) ?_
      refine AllReadyH.cons rfl (fun K hK => ?_) (AllReadyH.nil)
      go_simp
      refine (c_DMachine (HV.out.next hH) HVE.out (j := 0) (by omega) (HA.out.next hH)).mono ?_
      rintro e w9 ⟨vm9, vs9, vc9, vi9, vo9, sv9, rfl, hO9, hb9⟩
      have HO9 := Lib.hid hO9
      replace hH := hH.next hb9
      clear hO9 hb9
      refine hK.out _ _ hH (fun _ => ?_)
      clear hK
      (try simp only [List.getElem_toArray, List.getElem_cons_zero, List.getElem_cons_succ, Act.put, List.setIfInBounds_toArray, List.set_cons_zero, List.set_cons_succ])
      refine wpAnyH_ready (rs := [15]) (by kernel_rfl) (by simp) ?_
      refine AllReadyH.cons rfl (fun K hK => ?_) (AllReadyH.nil)
      go_simp
      refine (c_same33 HO9.out.mls (HL.out.keep (D' := (· < w.heap.size)) (fun b o hd => (BE.out _ hH).cell (p := ⟨b, o, none⟩) hd) (fun _ h => h) (fun k hk => Nat.lt_of_lt_of_le hk (BE.out _ hH).size)) (HVE.out.bd 0 (by omega))).mono ?_
      rintro e w10 ⟨rfl, hbw10⟩
      replace hH := hH.next hbw10
      clear hbw10
      refine hK.out _ _ hH (fun _ => ?_)
      clear hK
      (try simp only [List.getElem_toArray, List.getElem_cons_zero, List.getElem_cons_succ, Act.put, List.setIfInBounds_toArray, List.set_cons_zero, List.set_cons_succ])
      refine wpAnyH_take (i := 16) (v := ?_) rfl (by kernel_rfl) (by kernel_rfl) (by kernel_rfl) (fun _ _ _ h => h) (Or.inl ⟨by rfl, ?hy⟩) hH ?_
      case hy => (intro w9_ hS9; clear hS9; go_simp; try with_reducible rfl)
      (try simp only [List.getElem_toArray, List.getElem_cons_zero, List.getElem_cons_succ, Act.put, List.setIfInBounds_toArray, List.set_cons_zero, List.set_cons_succ])
      refine wpAnyH_take (i := 17) (v := ?_) rfl (by kernel_rfl) (by kernel_rfl) (by kernel_rfl) (fun _ _ _ h => h) (Or.inl ⟨by rfl, ?hy⟩) hH ?_
      case hy => (intro w9_ hS9; clear hS9; go_simp; try with_reducible rfl)
      (try simp only [List.getElem_toArray, List.getElem_cons_zero, List.getElem_cons_succ, Act.put, List.setIfInBounds_toArray, List.set_cons_zero, List.set_cons_succ])
      refine wpAnyH_done (by kernel_rfl) ?_ _
      clear HO9 BE
      have hB_w10 := hB_w6.next hH
      have z10 := hH.size
      replace HM := Lib.hid (HM.out.next hH)
      replace HV := Lib.hid (HV.out.next hH); replace HA := Lib.hid (HA.out.next hH); replace HR := Lib.hid (HR.out.keep (fun b o hd => hH.cell (p := ⟨b, o, none⟩) (by have := hd.2.1; show b < w6.heap.size; omega)))
      clear hH
      go_wp2_with fail
      refine (c_DMachine HV.out HVE.out (j := 0) (by omega) HA.out).mono ?_
      rintro e w11 ⟨vmn, vsn, vcn, vin, von, svn, rfl, hO11, hb11⟩
      have HL11 := Lib.hid (mc_len (tr im.code M 0) vmn vsn vcn vin von hO11.1)
      have HONE : Hid (∀ v ∈ mcells (tr im.code M 0) vmn vsn vcn vin von, v.oneCell' = true) := Lib.hid (by
        obtain ⟨_, _, rfl, _⟩ := hO11.mls.m; obtain ⟨_, _, rfl, _⟩ := hO11.mls.s; obtain ⟨_, _, rfl, _⟩ := hO11.mls.l.2.1; obtain ⟨_, _, rfl, _⟩ := hO11.mls.l.2.2.1; obtain ⟨_, _, rfl, _⟩ := hO11.mls.l.2.2.2
        exact mc_one rfl rfl rfl rfl rfl)
      have hrl : (tr im.code M 0).r.length = 16 := hO11.1
      obtain ⟨h0r, gm, gs, g1, g2, g3, g4, g5, hRow, -, -⟩ := hO11
      have HROW := Lib.hid hRow
      have z11 := hb11.size
      have hB_w11 := hB_w10.next hb11
      clear hRow h0r g2 g4 g5
      go_upto_region 14 with (refine wpList_store_row rfl 30 (.tmp 9) (.tmp 65) rfl w11.heap.size _ rfl rfl 30 #[.int .i64 0, .int .i64 0, .int .i64 0, .int .i64 0, .int .i64 0, .int .i64 0, .int .i64 0, .int .i64 0, .int .i64 0, .int .i64 0, .int .i64 0, .int .i64 0, .int .i64 0, .int .i64 0, .int .i64 0, .int .i64 0, .int .i64 0, .int .i64 0, .slice none 0 0, .slice none 0 0, .slice none 0 0, .int .i64 0, .int .i64 0, .slice none 0 0, .slice none 0 0] (heap_alloc_new w11 _) (by rw [info_mach25]; simp [HL11.out]) (by simp [HL11.out]) (all_oneCell_toArray HONE.out) ?_; simp only [Act.put, List.setIfInBounds_toArray, List.set_cons_succ, List.set_cons_zero])
      refine wp_nameY ?_
      intro w12 hw12
      rw [World.setRow_alloc_new] at hw12
      have hb12 : Below w11.heap.size w11 w12 := by rw [hw12]; exact (by repeat' (first | (with_reducible assumption) | (with_reducible exact Below.refl _ _) | (with_reducible refine Below.alloc ?_ ?_ _) | (with_reducible refine Bk.drewN_ ?_ _) | (with_reducible refine Below.drew ?_) | (with_reducible refine Below.setCell ?_ ?_ _) | go_size))
      have K12 : Blk w12 w11.heap.size 30 (mcells (tr im.code M 0) vmn vsn vcn vin von).toArray := by rw [hw12]; exact Blk.new _ _ _
      have z12 : w12.heap.size = w11.heap.size + 1 := by rw [hw12]; simp
      have HK := Lib.hid K12
      have hb1012 := hb11.next hb12
      have hB_w12 := hB_w11.next hb12
      obtain ⟨P2, hP2⟩ : ∃ P2 : Pl, P2 = { P with fx := fun k => k < w3.heap.size ∨ (w10.heap.size ≤ k ∧ k < w12.heap.size) } := ⟨_, rfl⟩
      have HA12 : Hid (DAt w12 P2 im.code M 0) := Lib.hid (by rw [hP2]; exact HA.out.foreign hb1012 (fun k hk => hk.elim (fun h => .inl (by rw [HFX.out]; exact h)) fun h => .inr h.1) (fun k hk => hk.elim (fun h => by omega) fun h => h.2))
      have HV12 : Hid (VFx w12 P2 A' n' cap' im) := Lib.hid (by rw [hP2]; exact (HV.out.next hb1012).pl _)
      have HR12 : Hid (Rd w12 (fun k => w3.heap.size ≤ k ∧ k < w4.heap.size ∧ ¬ P2.O k) 5 A' n' (codeCells im.code)) := Lib.hid (by rw [hP2]; exact HR.out.keep (fun b o hd => hb1012.cell (p := ⟨b, o, none⟩) (by have := hd.2.1; show b < w10.heap.size; omega)))
      have hPO2 : ∀ k, P2.O k → k < w4.heap.size := fun k hk => (HO.out k (by rw [hP2] at hk; exact hk)).2
      have hPX : ∀ k, w10.heap.size ≤ k → k < w12.heap.size → P2.fx k := fun k h1 h2 => by rw [hP2]; exact .inr ⟨h1, h2⟩
      have hbp : P.b = P2.b := by rw [hP2]
      have HM12 := Lib.hid (HM.out.next hb1012)
      replace HROW := Lib.hid (HROW.out.keep (w' := w12) (fun _ => hb12.block _ g3))
      rw [hbp]
      have hgt : 0 < w.heap.size := HT.out.lt
      have c18 : w12.cell? ⟨w11.heap.size, 18, none⟩ = some vmn := by
        rw [K12.cell 18, List.getElem?_toArray]; exact (mc_get hrl).2.2.2.1
      have hlm : (intCells (tr im.code M 0).m).length = M.m.length := intCells_length _
      clear hP2 hbp hw12 hb12 hb11 K12 hb1012 HA HV HR HM
      obtain ⟨Ar, cr, hvr, hcr, hAr, hRr⟩ := HROW.out
      rw [hlm] at hvr hcr
      subst hvr
      clear hRr hAr
      have hmm : M.m.length ≤ 40 := HSM.out.m
      have c5 : w12.cell? ⟨w11.heap.size, 5, none⟩ = some (.int .i64 ((tr im.code M 0).r.getD 3 0)) := by rw [HK.out.cell 5, List.getElem?_toArray]; exact (mc_get hrl).2.2.1 3 (by decide)
      have z5 : w12.frozen? ⟨w11.heap.size, 5, none⟩ = false := HK.out.frozen 5
      have hbn12 : w11.heap.size < w12.heap.size := HK.out.lt
      go_upto_region 15 with fail
      refine wp_nameY ?_
      intro w13 hw13
      have hf13 : Fr (· = w11.heap.size) w12 w13 := by rw [hw13]; exact Fr.set (O := (· = w11.heap.size)) (p := ⟨w11.heap.size, 5, none⟩) (Fr.refl _ _) rfl _
      have k13 : w13.cell? ⟨w11.heap.size, 18, none⟩ = some (.slice Ar M.m.length cr) := by rw [hw13, (HK.out.set_ 5 _).cell 18, Array.getElem?_setIfInBounds_ne (by decide), ← HK.out.cell 18]; exact c18
      replace HROW := Lib.hid (HROW.out.keep (w' := w13) (fun _ => hf13.block _ (by omega) (by omega)))
      have z13 := hf13.size
      have HF13 := Lib.hid hf13
      clear c5 z5 c18 hw13 hf13
      go_wp2_with fail
      go_loopw [75] (fun v75 wr => ∃ (i : Nat) (ys : List Int), i ≤ M.m.length ∧ v75 = .int .i64 i ∧ ys.length = M.m.length ∧ Row wr gm (.slice Ar M.m.length cr) (intCells ys) ∧ Fr (· = gm) w13 wr) (fun v _ => M.m.length - (intOf v).toNat)
      case atStart => exact ⟨0, (tr im.code M 0).m, Nat.zero_le _, rfl, rfl, HROW.out, Fr.refl _ _⟩
      case round =>
        obtain ⟨i, ys, hi, rfl, hys, hrow, hfr⟩ := hrel
        have HFr := Lib.hid hfr; have HRow := Lib.hid hrow
        have k18 : wr.cell? ⟨w11.heap.size, 18, none⟩ = some (.slice Ar M.m.length cr) := (hfr.cell (by omega) (by omega) _).trans k13
        have zr := hfr.size
        clear hfr hrow
        by_cases hlt : i < M.m.length
        · obtain ⟨cap2, ev, _, hc, hz⟩ := HRow.out.form (by rw [intCells_length]; omega)
          rw [intCells_length, hys] at ev
          injection ev with ev _ evc
          subst ev; subst evc
          have ec := hc i _ (intCells_get ys i (by omega))
          have ez := hz i
          generalize ys.getD i 0 = y at *
          have i0 : (0 : Int) ≤ (i : Int) := by omega
          have i1 : (i : Int) < (M.m.length : Int) := by omega
          have hgz : gm < wr.heap.size := by omega
          have HYS := Lib.hid hys
          clear hc hz hys
          go_wp2_with fail
          have hiy : i < ys.length := by have := HYS.out; omega
          refine ⟨⟨i + 1, _, by omega, by go_num, ?_, row_set_int33 HRow.out hiy _, Fr.set (O := (· = gm)) (p := ⟨gm, i, none⟩) HFr.out rfl _⟩, by simp [intOf]; omega⟩
          rw [List.length_set]; exact HYS.out
        · obtain rfl : i = M.m.length := by omega
          obtain ⟨w14, hw14⟩ : ∃ w14 : World, w14 = wr := ⟨_, rfl⟩
          subst hw14
          go_upto_region 20 with fail
          have hf14 : Fr (fun k => k = gm ∨ k = w11.heap.size) w12 w14 := (HF13.out.mono (fun k hk => .inr hk)).trans (HFr.out.mono (fun k hk => .inl hk))
          have HA14 := Lib.hid (HA12.out.other hf14 (fun h => by have := hPO2 _ (.inl rfl); omega) (fun h => by have := hPO2 _ (.inr (.inl rfl)); omega) (fun h => by have := hPO2 _ (.inr (.inr rfl)); omega) (fun k hk => hPX k (by omega) (by omega)))
          have HV14 := Lib.hid (HV12.out.other HR12.out (by omega) hf14 (fun k h1 h2 h => by omega) (fun h => by omega))
          have HM14 := Lib.hid (HM12.out.fr hf14 (fun h => by omega) (fun k hk h => by omega))
          have hB_w14 : Below w.heap.size w w14 := hB_w12.trans (hf14.below (B := w.heap.size) (by omega) (fun k hk => by omega))
          have BE : Hid (∀ W, Below w14.heap.size w14 W → Below w.heap.size w W) := Lib.hid fun W h => hB_w14.next h
          clear hf14
          refine wp_region_held_drew (S := fun W => Below w14.heap.size w14 W) (by kernel_rfl) ((Below.refl _ _).drew) (fun hH => ?_)
          refine wpAnyH_take (i := 0) (v := ?_) rfl (by kernel_rfl) (by kernel_rfl) (by kernel_rfl) (fun _ _ _ h => h) (Or.inl ⟨by rfl, ?hy⟩) hH ?_
          case hy => (intro w9_ hS9; clear hS9; go_simp; try with_reducible rfl)
          (try simp only [List.getElem_toArray, List.getElem_cons_zero, List.getElem_cons_succ, Act.put, List.setIfInBounds_toArray, List.set_cons_zero, List.set_cons_succ])
          refine wpAnyH_take (i := 2) (v := _) rfl (by kernel_rfl) (by kernel_rfl) (by kernel_rfl) (fun _ _ _ h => h) (Or.inl ⟨by rfl, yields_load 30 (x := .tmp 3) rfl rfl (fun W hW => load_mach (HM14.out.next hW))⟩) hH ?_
          (try simp only [List.getElem_toArray, List.getElem_cons_zero, List.getElem_cons_succ, Act.put, List.setIfInBounds_toArray, List.set_cons_zero, List.set_cons_succ])
          refine wpAnyH_ready (rs := [1]) (by kernel_rfl) (by simp) ?_
          refine AllReadyH.cons rfl (fun K hK => ?_) (AllReadyH.nil)
          go_simp
          refine (c_DMachine (HV14.out.next hH) HVE.out (j := 0) (by omega) (HA14.out.next hH)).mono ?_
          rintro e w15 ⟨vm15, vs15, vc15, vi15, vo15, sv15, rfl, hO15, hb15⟩
          have HO15 := Lib.hid hO15
          replace hH := hH.next hb15
          clear hO15 hb15
          refine hK.out _ _ hH (fun _ => ?_)
          clear hK
          (try simp only [List.getElem_toArray, List.getElem_cons_zero, List.getElem_cons_succ, Act.put, List.setIfInBounds_toArray, List.set_cons_zero, List.set_cons_succ])
          refine wpAnyH_ready (rs := [3]) (by kernel_rfl) (by simp) ?_
          refine AllReadyH.cons rfl (fun K hK => ?_) (AllReadyH.nil)
          go_simp
          refine (c_same33 HO15.out.mls (HL.out.keep (D' := (· < w.heap.size)) (fun b o hd => (BE.out _ hH).cell (p := ⟨b, o, none⟩) hd) (fun _ h => h) (fun k hk => Nat.lt_of_lt_of_le hk (BE.out _ hH).size)) (HVE.out.bd 0 (by omega))).mono ?_
          rintro e w16 ⟨rfl, hbw16⟩
          replace hH := hH.next hbw16
          clear hbw16
          refine hK.out _ _ hH (fun _ => ?_)
          clear hK
          (try simp only [List.getElem_toArray, List.getElem_cons_zero, List.getElem_cons_succ, Act.put, List.setIfInBounds_toArray, List.set_cons_zero, List.set_cons_succ])
          refine wpAnyH_take (i := 4) (v := ?_) rfl (by kernel_rfl) (by kernel_rfl) (by kernel_rfl) (fun _ _ _ h => h) (Or.inl ⟨by rfl, ?hy⟩) hH ?_
          case hy => (intro w9_ hS9; clear hS9; go_simp; try with_reducible rfl)
          (try simp only [List.getElem_toArray, List.getElem_cons_zero, List.getElem_cons_succ, Act.put, List.setIfInBounds_toArray, List.set_cons_zero, List.set_cons_succ])
          refine wpAnyH_done (by kernel_rfl) ?_ _
          go_wp2_with fail
          go_ret
          exact ⟨rfl, BE.out _ hH⟩
  · have h0' : (ck != 0) = true := by simpa using h0
    refine (c_DNewBad A n cap im M vm vs vc vi vo sv w3 (Rd.upL HC.out hB_w3) hw (MLs.up HL.out hB_w3) hms hcl (HT.out.next hB_w3) HCK.out h0).mono ?_
    rintro e w4 ⟨rfl, hb4⟩
    have hB_w4 := hB_w3.next hb4
    replace HM := Lib.hid (HM.out.next hb4)
    have K_1 : Blk w4 (w.heap.size) 24 #[.slice A n cap, .int .i64 im.mem, .int .i64 im.stacks] := Blk.next (by repeat' (first | with_reducible exact H_1.out | with_reducible exact K0_1 | (refine Blk.new' ?_ _ _; simp; done) | with_reducible refine Blk.alloc ?_ _ | with_reducible refine Blk.drewN ?_ _ | with_reducible refine Blk.drew ?_)) hb4; (try clear H_1); (try clear T_1); (try clear z_1); (try clear F_1); obtain ⟨z_1, T_1, F_1⟩ := K_1.open_; have H_1 := Lib.hid K_1; clear K_1
    have z4 := hb4.size
    clear hb4
    clear h0
    go_wp2_with fail
    refine (c_Check' A n cap im HCI.out _ (Rd.upL HC.out hB_w4) hw (HT.out.next hB_w4)).mono ?_
    rintro e w5 ⟨rfl, hb5⟩
    have hB_w5 := hB_w4.next hb5
    replace HM := Lib.hid (HM.out.next hb5)
    have K_1 : Blk w5 (w.heap.size) 24 #[.slice A n cap, .int .i64 im.mem, .int .i64 im.stacks] := Blk.next (by repeat' (first | with_reducible exact H_1.out | with_reducible exact K0_1 | (refine Blk.new' ?_ _ _; simp; done) | with_reducible refine Blk.alloc ?_ _ | with_reducible refine Blk.drewN ?_ _ | with_reducible refine Blk.drew ?_)) hb5; (try clear H_1); (try clear T_1); (try clear z_1); (try clear F_1); obtain ⟨z_1, T_1, F_1⟩ := K_1.open_; have H_1 := Lib.hid K_1; clear K_1
    have z5 := hb5.size
    clear hb5
    go_wp2_with fail
    go_ret
    exact ⟨rfl, hB_w5⟩
end Go.Proofs.YtfpcblgkcbfdoaaDoor
