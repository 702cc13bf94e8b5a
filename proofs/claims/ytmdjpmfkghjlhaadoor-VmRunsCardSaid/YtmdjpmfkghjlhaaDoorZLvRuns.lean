/- The walk of the law VmRuns. -/
import Derived.Test.YtmdjpmfkghjlhaaDoorVmZ
set_option linter.unusedVariables false
set_option linter.unusedSimpArgs false
set_option maxRecDepth 100000
namespace Go.Proofs.YtmdjpmfkghjlhaaDoor
open Go.RowKit Bk
set_option maxHeartbeats 16000000 in
theorem c_lawVmRuns (A : Option Addr) (n cap : Nat) (im : Img) (M : Mach) (vm vs vc vi vo : Value) (sv : List Value) (w : World) (hC : Rd w (· < w.heap.size) 5 A n (codeCells im.code)) (hw : CodeWf im.code) (hL : MLs w (· < w.heap.size) M vm vs vc vi vo sv) (hwf : MWf M) (hl : ∀ l ∈ M.s, l.length ≤ 281474976710656) (hTab : TableAt w) (x : Nat) (hx : x ≤ 255) :
    Calls Tryd.prog 8 #[.agg #[.slice A n cap, .int .i64 im.mem, .int .i64 im.stacks], .agg (mcells M vm vs vc vi vo).toArray, .int .u8 (x : Int)] w fun e w' => e = .returned (.bool true) ∧ Below w.heap.size w w' := by
  obtain ⟨v, hv⟩ : ∃ v, okV im M (x : Int) = v := ⟨_, rfl⟩
  have HOK := Lib.hid hv; clear hv
  have hwx : IntKind.i64.wrap (x : Int) = (x : Int) := wrap_small _ (by omega) (by omega)
  have hnn : n = im.code.length := by have := hC.1; rw [codeCells_length] at this; omega
  have HC := Lib.hid hC; have HT := Lib.hid hTab; have HL := Lib.hid hL; have HLL := Lib.hid hl; have HN := Lib.hid hnn; have HWF := Lib.hid hwf
  clear hC hTab hL hl hnn hwf
  go_enter Tryd.func8, Tryd.ntmps8
  go_upto_region 1 with fail
  refine wp_nameY ?_
  intro w1 hw1
  have hB_w1 : Below w.heap.size w w1 := by rw [hw1]; exact (by repeat' (first | (with_reducible assumption) | (with_reducible exact Below.refl _ _) | (with_reducible refine Below.alloc ?_ ?_ _) | (with_reducible refine Bk.drewN_ ?_ _) | (with_reducible refine Below.drew ?_) | (with_reducible refine Below.setCell ?_ ?_ _) | go_size))
  have K_1 : Blk w1 w.heap.size 24 #[.slice A n cap, .int .i64 im.mem, .int .i64 im.stacks] := by rw [hw1]; exact (by repeat' (first | with_reducible assumption | (refine Blk.new' ?_ _ _; simp; done) | refine Blk.alloc ?_ _ | refine Blk.drewN ?_ _ | refine Blk.drew ?_))
  have KM : Blk w1 (w.heap.size + 1) 30 (mcells M vm vs vc vi vo).toArray := by rw [hw1]; exact (by repeat' (first | with_reducible assumption | (refine Blk.new' ?_ _ _; simp; done) | refine Blk.alloc ?_ _ | refine Blk.drewN ?_ _ | refine Blk.drew ?_))
  have HM := Lib.hid ((HL.out.next hB_w1).at_ KM)
  have zz : w1.heap.size = w.heap.size + 2 := by rw [hw1]; simp
  clear hw1 KM
  obtain ⟨z_1, T_1, F_1⟩ := K_1.open_; have H_1 := Lib.hid K_1; clear K_1
  go_wp2_with fail
  refine (c_awake25 _ (HT.out.next hB_w1)).mono ?_
  rintro e w2 ⟨rfl, hb2⟩
  have hB_w2 := hB_w1.next hb2
  replace HM := Lib.hid (HM.out.next hb2)
  have K_1 : Blk w2 (w.heap.size) 24 #[.slice A n cap, .int .i64 im.mem, .int .i64 im.stacks] := Blk.next (by repeat' (first | with_reducible exact H_1.out | with_reducible exact K0_1 | (refine Blk.new' ?_ _ _; simp; done) | with_reducible refine Blk.alloc ?_ _ | with_reducible refine Blk.drewN ?_ _ | with_reducible refine Blk.drew ?_)) hb2; (try clear H_1); (try clear T_1); (try clear z_1); (try clear F_1); obtain ⟨z_1, T_1, F_1⟩ := K_1.open_; have H_1 := Lib.hid K_1; clear K_1
  have z2 := hb2.size
  clear hb2
  have H2_1 := Lib.hid H_1.out
  clear T_1 z_1 F_1 H_1
  go_upto_region 3 with fail
  cases v with
  | false =>
    refine wp_region_held_drew (S := fun W => Below w2.heap.size w2 W) (by kernel_rfl) ((Below.refl _ _).drew) (fun hH => ?_)
    refine wpAnyH_take (i := 0) (v := ?_) rfl (by kernel_rfl) (by kernel_rfl) (by kernel_rfl) (fun _ _ _ h => h) (Or.inl ⟨by rfl, ?hy⟩) hH ?_
    case hy => (intro w9_ hS9; have T9 := (H2_1.out.next hS9).cell; clear hS9; go_simp; try with_reducible rfl)
    (try simp only [List.getElem_toArray, List.getElem_cons_zero, List.getElem_cons_succ, Act.put, List.setIfInBounds_toArray, List.set_cons_zero, List.set_cons_succ])
    refine wpAnyH_take (i := 1) (v := _) rfl (by kernel_rfl) (by kernel_rfl) (by kernel_rfl) (fun _ _ _ h => h) (Or.inl ⟨by rfl, yields_load 30 (x := .tmp 4) rfl rfl (fun W hW => load_mach (HM.out.next hW))⟩) hH ?_
    (try simp only [List.getElem_toArray, List.getElem_cons_zero, List.getElem_cons_succ, Act.put, List.setIfInBounds_toArray, List.set_cons_zero, List.set_cons_succ])
    refine wpAnyH_take (i := 2) (v := ?_) rfl (by kernel_rfl) (by kernel_rfl) (by kernel_rfl) (fun _ _ _ h => h) (Or.inl ⟨by rfl, ?hy⟩) hH ?_
    case hy => (intro w9_ hS9; clear hS9; go_simp; try with_reducible rfl)
    (try simp only [List.getElem_toArray, List.getElem_cons_zero, List.getElem_cons_succ, Act.put, List.setIfInBounds_toArray, List.set_cons_zero, List.set_cons_succ])
    refine wpAnyH_take (i := 3) (v := ?_) rfl (by kernel_rfl) (by kernel_rfl) (by kernel_rfl) (fun _ _ _ h => h) (Or.inl ⟨by rfl, ?hy⟩) hH ?_
    case hy => (intro w9_ hS9; clear hS9; go_simp; try with_reducible rfl)
    (try simp only [List.getElem_toArray, List.getElem_cons_zero, List.getElem_cons_succ, Act.put, List.setIfInBounds_toArray, List.set_cons_zero, List.set_cons_succ])
    refine wpAnyH_take (i := 5) (v := ?_) rfl (by kernel_rfl) (by kernel_rfl) (by kernel_rfl) (fun _ _ _ h => h) (Or.inl ⟨by rfl, ?hy⟩) hH ?_
    case hy => (intro w9_ hS9; have T9 := (H2_1.out.next hS9).cell; clear hS9; go_simp; try with_reducible rfl)
    (try simp only [List.getElem_toArray, List.getElem_cons_zero, List.getElem_cons_succ, Act.put, List.setIfInBounds_toArray, List.set_cons_zero, List.set_cons_succ])
    refine wpAnyH_take (i := 6) (v := _) rfl (by kernel_rfl) (by kernel_rfl) (by kernel_rfl) (fun _ _ _ h => h) (Or.inl ⟨by rfl, yields_load 30 (x := .tmp 4) rfl rfl (fun W hW => load_mach (HM.out.next hW))⟩) hH ?_
    (try simp only [List.getElem_toArray, List.getElem_cons_zero, List.getElem_cons_succ, Act.put, List.setIfInBounds_toArray, List.set_cons_zero, List.set_cons_succ])
    refine wpAnyH_take (i := 7) (v := ?_) rfl (by kernel_rfl) (by kernel_rfl) (by kernel_rfl) (fun _ _ _ h => h) (Or.inl ⟨by rfl, ?hy⟩) hH ?_
    case hy => (intro w9_ hS9; clear hS9; go_simp; try with_reducible rfl)
    (try simp only [List.getElem_toArray, List.getElem_cons_zero, List.getElem_cons_succ, Act.put, List.setIfInBounds_toArray, List.set_cons_zero, List.set_cons_succ])
    refine wpAnyH_take (i := 8) (v := ?_) rfl (by kernel_rfl) (by kernel_rfl) (by kernel_rfl) (fun _ _ _ h => h) (Or.inl ⟨by rfl, ?hy⟩) hH ?_
    case hy => (intro w9_ hS9; clear hS9; go_simp; try with_reducible rfl)
    (try simp only [List.getElem_toArray, List.getElem_cons_zero, List.getElem_cons_succ, Act.put, List.setIfInBounds_toArray, List.set_cons_zero, List.set_cons_succ])
    refine wpAnyH_ready (rs := [4]) (by kernel_rfl) (by simp) ?_
    refine AllReadyH.cons rfl (fun K hK => ?_) (AllReadyH.nil)
    go_simp
    refine (c_madeNone A n cap im M vm vs vc vi vo sv _ (Rd.upL HC.out (hB_w2.next hH)) hw (MLs.up HL.out (hB_w2.next hH)) HWF.out HLL.out (HT.out.next (hB_w2.next hH)) x HOK.out).mono ?_
    rintro e w3 ⟨rfl, hb3⟩
    replace hH := hH.next hb3
    clear hb3
    refine hK.out _ _ hH (fun _ => ?_)
    clear hK
    (try simp only [List.getElem_toArray, List.getElem_cons_zero, List.getElem_cons_succ, Act.put, List.setIfInBounds_toArray, List.set_cons_zero, List.set_cons_succ])
    refine wpAnyH_ready (rs := [9]) (by kernel_rfl) (by simp) ?_
    refine AllReadyH.cons rfl (fun K hK => ?_) (AllReadyH.nil)
    go_simp
    refine (c_madeNone A n cap im M vm vs vc vi vo sv _ (Rd.upL HC.out (hB_w2.next hH)) hw (MLs.up HL.out (hB_w2.next hH)) HWF.out HLL.out (HT.out.next (hB_w2.next hH)) x HOK.out).mono ?_
    rintro e w4 ⟨rfl, hb4⟩
    replace hH := hH.next hb4
    clear hb4
    refine hK.out _ _ hH (fun _ => ?_)
    clear hK
    (try simp only [List.getElem_toArray, List.getElem_cons_zero, List.getElem_cons_succ, Act.put, List.setIfInBounds_toArray, List.set_cons_zero, List.set_cons_succ])
    refine wpAnyH_take (i := 10) (v := ?_) rfl (by kernel_rfl) (by kernel_rfl) (by kernel_rfl) (fun _ _ _ h => h) (Or.inl ⟨by rfl, ?hy⟩) hH ?_
    case hy => (intro w9_ hS9; clear hS9; go_simp; try with_reducible rfl)
    (try simp only [List.getElem_toArray, List.getElem_cons_zero, List.getElem_cons_succ, Act.put, List.setIfInBounds_toArray, List.set_cons_zero, List.set_cons_succ])
    refine wpAnyH_take (i := 11) (v := ?_) rfl (by kernel_rfl) (by kernel_rfl) (by kernel_rfl) (fun _ _ _ h => h) (Or.inl ⟨by rfl, ?hy⟩) hH ?_
    case hy => (intro w9_ hS9; clear hS9; go_simp; try with_reducible rfl)
    (try simp only [List.getElem_toArray, List.getElem_cons_zero, List.getElem_cons_succ, Act.put, List.setIfInBounds_toArray, List.set_cons_zero, List.set_cons_succ])
    refine wpAnyH_done (by kernel_rfl) ?_ _
    go_wp2_with fail
    go_ret
    exact ⟨rfl, hB_w2.next hH⟩
  | true =>
    refine wp_region_held_drew (S := fun W => Below w2.heap.size w2 W) (by kernel_rfl) ((Below.refl _ _).drew) (fun hH => ?_)
    refine wpAnyH_take (i := 0) (v := ?_) rfl (by kernel_rfl) (by kernel_rfl) (by kernel_rfl) (fun _ _ _ h => h) (Or.inl ⟨by rfl, ?hy⟩) hH ?_
    case hy => (intro w9_ hS9; have T9 := (H2_1.out.next hS9).cell; clear hS9; go_simp; try with_reducible rfl)
    (try simp only [List.getElem_toArray, List.getElem_cons_zero, List.getElem_cons_succ, Act.put, List.setIfInBounds_toArray, List.set_cons_zero, List.set_cons_succ])
    refine wpAnyH_take (i := 1) (v := _) rfl (by kernel_rfl) (by kernel_rfl) (by kernel_rfl) (fun _ _ _ h => h) (Or.inl ⟨by rfl, yields_load 30 (x := .tmp 4) rfl rfl (fun W hW => load_mach (HM.out.next hW))⟩) hH ?_
    (try simp only [List.getElem_toArray, List.getElem_cons_zero, List.getElem_cons_succ, Act.put, List.setIfInBounds_toArray, List.set_cons_zero, List.set_cons_succ])
    refine wpAnyH_take (i := 2) (v := ?_) rfl (by kernel_rfl) (by kernel_rfl) (by kernel_rfl) (fun _ _ _ h => h) (Or.inl ⟨by rfl, ?hy⟩) hH ?_
    case hy => (intro w9_ hS9; clear hS9; go_simp; try with_reducible rfl)
    (try simp only [List.getElem_toArray, List.getElem_cons_zero, List.getElem_cons_succ, Act.put, List.setIfInBounds_toArray, List.set_cons_zero, List.set_cons_succ])
    refine wpAnyH_take (i := 3) (v := ?_) rfl (by kernel_rfl) (by kernel_rfl) (by kernel_rfl) (fun _ _ _ h => h) (Or.inl ⟨by rfl, ?hy⟩) hH ?_
    case hy => (intro w9_ hS9; clear hS9; go_simp; try with_reducible rfl)
    (try simp only [List.getElem_toArray, List.getElem_cons_zero, List.getElem_cons_succ, Act.put, List.setIfInBounds_toArray, List.set_cons_zero, List.set_cons_succ])
    refine wpAnyH_take (i := 5) (v := ?_) rfl (by kernel_rfl) (by kernel_rfl) (by kernel_rfl) (fun _ _ _ h => h) (Or.inl ⟨by rfl, ?hy⟩) hH ?_
    case hy => (intro w9_ hS9; have T9 := (H2_1.out.next hS9).cell; clear hS9; go_simp; try with_reducible rfl)
    (try simp only [List.getElem_toArray, List.getElem_cons_zero, List.getElem_cons_succ, Act.put, List.setIfInBounds_toArray, List.set_cons_zero, List.set_cons_succ])
    refine wpAnyH_take (i := 6) (v := _) rfl (by kernel_rfl) (by kernel_rfl) (by kernel_rfl) (fun _ _ _ h => h) (Or.inl ⟨by rfl, yields_load 30 (x := .tmp 4) rfl rfl (fun W hW => load_mach (HM.out.next hW))⟩) hH ?_
    (try simp only [List.getElem_toArray, List.getElem_cons_zero, List.getElem_cons_succ, Act.put, List.setIfInBounds_toArray, List.set_cons_zero, List.set_cons_succ])
    refine wpAnyH_take (i := 7) (v := ?_) rfl (by kernel_rfl) (by kernel_rfl) (by kernel_rfl) (fun _ _ _ h => h) (Or.inl ⟨by rfl, ?hy⟩) hH ?_
    case hy => (intro w9_ hS9; clear hS9; go_simp; try with_reducible rfl)
    (try simp only [List.getElem_toArray, List.getElem_cons_zero, List.getElem_cons_succ, Act.put, List.setIfInBounds_toArray, List.set_cons_zero, List.set_cons_succ])
    refine wpAnyH_take (i := 8) (v := ?_) rfl (by kernel_rfl) (by kernel_rfl) (by kernel_rfl) (fun _ _ _ h => h) (Or.inl ⟨by rfl, ?hy⟩) hH ?_
    case hy => (intro w9_ hS9; clear hS9; go_simp; try with_reducible rfl)
    (try simp only [List.getElem_toArray, List.getElem_cons_zero, List.getElem_cons_succ, Act.put, List.setIfInBounds_toArray, List.set_cons_zero, List.set_cons_succ])
    refine wpAnyH_ready (rs := [4]) (by kernel_rfl) (by simp) ?_
    refine AllReadyH.cons rfl (fun K hK => ?_) (AllReadyH.nil)
    go_simp
    refine (c_madeOk A n cap im M vm vs vc vi vo sv _ (Rd.upL HC.out (hB_w2.next hH)) hw (MLs.up HL.out (hB_w2.next hH)) HWF.out HLL.out (HT.out.next (hB_w2.next hH)) x HOK.out).mono ?_
    rintro e w3 ⟨P, A', n', cap', rfl, hV, hA, hO, hfx, hR, hb3⟩
    have h23 := hH.next hb3
    have z23 := h23.size
    have HV3 := Lib.hid hV; have HA3 := Lib.hid hA; have HR3 := Lib.hid hR
    have hPO : ∀ k, P.O k → w2.heap.size ≤ k ∧ k < w3.heap.size := hO
    have hPF : P.fx = (· < w2.heap.size) := hfx
    have HPF := Lib.hid hPF
    replace hH := h23
    clear hV hA hO hfx hR hb3 hPF
    refine hK.out _ _ hH (fun _ => ?_)
    clear hK
    (try simp only [List.getElem_toArray, List.getElem_cons_zero, List.getElem_cons_succ, Act.put, List.setIfInBounds_toArray, List.set_cons_zero, List.set_cons_succ])
    refine wpAnyH_ready (rs := [9]) (by kernel_rfl) (by simp) ?_
    refine AllReadyH.cons rfl (fun K hK => ?_) (AllReadyH.nil)
    go_simp
    refine (c_madeOk A n cap im M vm vs vc vi vo sv _ (Rd.upL HC.out (hB_w2.next hH)) hw (MLs.up HL.out (hB_w2.next hH)) HWF.out HLL.out (HT.out.next (hB_w2.next hH)) x HOK.out).mono ?_
    rintro e w4 ⟨Q, A2, n2, cap2, rfl, hV, hA, hQO, hfx, hR, hb4⟩
    have HW4 := Lib.hid hV; have HB4 := Lib.hid hA; have HS4 := Lib.hid hR; have HQF := Lib.hid hfx
    have z34 := hb4.size
    have HV4 := Lib.hid (HV3.out.next hb4)
    have HA4 : Hid (VAt w4 { P with fx := fun k => k < w2.heap.size ∨ (w3.heap.size ≤ k ∧ k < w4.heap.size) } im.code M 0 x) := Lib.hid (HA3.out.foreign hb4 (fun k hk => hk.elim (fun h => .inl (by rw [HPF.out]; exact h)) fun h => .inr h.1) (fun k hk => hk.elim (fun h => by have := hH.size; omega) fun h => h.2))
    have HR4 := Lib.hid (HR3.out.keep (fun b o hd => hb4.cell (p := ⟨b, o, none⟩) hd.2.1))
    replace hH := hH.next hb4
    clear hV hA hfx hR hb4 HV3 HA3 HR3
    refine hK.out _ _ hH (fun _ => ?_)
    clear hK
    (try simp only [List.getElem_toArray, List.getElem_cons_zero, List.getElem_cons_succ, Act.put, List.setIfInBounds_toArray, List.set_cons_zero, List.set_cons_succ])
    refine wpAnyH_take (i := 10) (v := ?_) rfl (by kernel_rfl) (by kernel_rfl) (by kernel_rfl) (fun _ _ _ h => h) (Or.inl ⟨by rfl, ?hy⟩) hH ?_
    case hy => (intro w9_ hS9; clear hS9; go_simp; try with_reducible rfl)
    (try simp only [List.getElem_toArray, List.getElem_cons_zero, List.getElem_cons_succ, Act.put, List.setIfInBounds_toArray, List.set_cons_zero, List.set_cons_succ])
    refine wpAnyH_take (i := 11) (v := ?_) rfl (by kernel_rfl) (by kernel_rfl) (by kernel_rfl) (fun _ _ _ h => h) (Or.inl ⟨by rfl, ?hy⟩) hH ?_
    case hy => (intro w9_ hS9; clear hS9; go_simp; try with_reducible rfl)
    (try simp only [List.getElem_toArray, List.getElem_cons_zero, List.getElem_cons_succ, Act.put, List.setIfInBounds_toArray, List.set_cons_zero, List.set_cons_succ])
    refine wpAnyH_done (by kernel_rfl) ?_ _
    have hB_w4 : Below w.heap.size w w4 := hB_w2.next hH
    obtain ⟨P2, hP2⟩ : ∃ P2 : Pl, P2 = { P with fx := fun k => k < w2.heap.size ∨ (w3.heap.size ≤ k ∧ k < w4.heap.size) } := ⟨_, rfl⟩
    rw [← hP2] at HA4
    have HV4 : Hid (VFx w4 P2 A' n' cap' im) := Lib.hid (by rw [hP2]; exact HV4.out.pl _)
    have hPO2 : ∀ k, P2.O k → w2.heap.size ≤ k ∧ k < w3.heap.size := fun k hk => hPO k (by rw [hP2] at hk; exact hk)
    have hbp : P.b = P2.b := by rw [hP2]
    have HR4 : Hid (Rd w4 (fun k => w2.heap.size ≤ k ∧ k < w3.heap.size ∧ ¬ P2.O k) 5 A' n' (codeCells im.code)) := Lib.hid (by rw [hP2]; exact HR4.out)
    have HPX : Hid (∀ k, w3.heap.size ≤ k → k < w4.heap.size → P2.fx k) := Lib.hid (fun k h1 h2 => by rw [hP2]; exact .inr ⟨h1, h2⟩)
    rw [hbp]
    have hw2 : w.heap.size + 2 ≤ w2.heap.size := by omega
    have hgt : 0 < w.heap.size := HT.out.lt
    have HPQ : Hid (∀ k, P2.O k → k < w3.heap.size ∧ ¬ Q.O k ∧ Q.fx k ∧ k ≠ 0) := Lib.hid (fun k hk => ⟨(hPO2 k hk).2, fun h => by have := (hQO k h).1; have := (hPO2 k hk).2; omega, by rw [HQF.out]; exact (hPO2 k hk).2, by have := (hPO2 k hk).1; omega⟩)
    have HQP : Hid (∀ k, Q.O k → w3.heap.size ≤ k ∧ ¬ P2.O k ∧ P2.fx k ∧ k ≠ 0) := Lib.hid (fun k hk => ⟨(hQO k hk).1, fun h => by have := (hQO k hk).1; have := (hPO2 k h).2; omega, HPX.out k (hQO k hk).1 (hQO k hk).2, by have := (hQO k hk).1; omega⟩)
    have BEL : Hid (∀ wz, Fr (fun k => w2.heap.size ≤ k) w4 wz → Below w.heap.size w wz) := Lib.hid fun wz hf => hB_w4.trans (hf.below (B := w.heap.size) (by have := hB_w4.size; omega) (fun k hk => by omega))
    have HOP : Hid (∀ k, P2.O k → w2.heap.size ≤ k) := Lib.hid fun k hk => (hPO2 k hk).1
    have HOQ : Hid (∀ k, Q.O k → w2.heap.size ≤ k) := Lib.hid fun k hk => by have := (hQO k hk).1; omega
    obtain ⟨hg, hck, hf, hx0, hx1⟩ := okV.facts HOK.out
    have hsm := Sm25.of hg
    have HVE : Hid (VEnv im M 300) := Lib.hid (VEnv.sm hsm hck hw HWF.out hf (by decide))
    clear hP2 hbp hg hck hf hx0 hx1 hsm hPO hPO2 hQO hgt
    obtain ⟨N, hN⟩ : ∃ N, runV im.code M x 0 = N := ⟨_, rfl⟩
    have hNx : N ≤ x := by rw [← hN]; exact runV_le _ _ _ _
    obtain ⟨ee, hee⟩ : ∃ ee, endE im.code M (x - N) N = ee := ⟨_, rfl⟩
    have HLT : Hid (∀ i, i < N → halt im.code (tr im.code M i) = false ∧ te im.code M i = 0 ∧ i < x) := Lib.hid fun i hi => by have := runV_lt (code := im.code) (M := M) x 0 i (by rw [hN]; exact hi); rwa [Nat.zero_add] at this
    have HST : Hid (halt im.code (tr im.code M N) = true ∨ N = x ∨ te im.code M N ≠ 0) := Lib.hid (by have := runV_stop (code := im.code) (M := M) x 0; rwa [hN, Nat.zero_add] at this)
    have hs := c_VRun (j := 0) (f := x) HV4.out HVE.out (by omega) (by omega) (by omega) HA4.out
    rw [hN, Nat.zero_add, hee] at hs
    have HSS := Lib.hid hs
    have HEE := Lib.hid hee
    obtain ⟨hh, hhh⟩ : ∃ hh, halt im.code (tr im.code M N) = hh := ⟨_, rfl⟩
    have HHH := Lib.hid hhh
    clear hs hN hee hhh
    go_wp2_with fail
    refine HSS.out.mono ?_
    rintro e w5 ⟨rfl, hA5, hf5⟩
    have HV5 := Lib.hid (HV4.out.fr hf5); have HA5 := Lib.hid hA5
    have HB5 := Lib.hid (HB4.out.other hf5 (fun h => (HPQ.out _ h).2.1 (.inl rfl)) (fun h => (HPQ.out _ h).2.1 (.inr (.inl rfl))) (fun h => (HPQ.out _ h).2.1 (.inr (.inr rfl))) (fun k hk => (HPQ.out k hk).2.2.1))
    have HW5 := Lib.hid (HW4.out.other HS4.out (Nat.le_refl _) hf5 (fun k h1 h2 h => by have := (HPQ.out k h).1; omega) (fun h => (HPQ.out _ h).2.2.2 rfl))
    have HR5 := Lib.hid (Rd.frR HR4.out z34 hf5 (fun k h1 h2 h3 => h3))
    have HF5 := Lib.hid ((Fr.refl (fun k => w2.heap.size ≤ k) w4).trans (hf5.mono HOP.out))
    have z5 := hf5.size
    clear hA5 hf5
    go_wp2_with fail
    go_loopw [11, 12, 36] (fun v11 v12 v36 wr => ∃ i : Nat, i ≤ N ∧ v11 = .int .i64 i ∧ v12 = .int .i64 0 ∧ v36 = .int .i64 i ∧ VAt wr Q im.code M i (x - i) ∧ Fr Q.O w5 wr) (fun _ _ v _ => N - (intOf v).toNat)
    case atStart => exact ⟨0, Nat.zero_le _, rfl, rfl, rfl, HB5.out, Fr.refl _ _⟩
    case round =>
      obtain ⟨i, hi, rfl, rfl, rfl, hb, hfr⟩ := hrel
      have HBi := Lib.hid hb; have HFi := Lib.hid hfr
      have HWi := Lib.hid (HW5.out.fr hfr)
      have i300 : (i : Int) < 300 := by omega
      clear hb hfr
      have hc := c_VHalted HWi.out HVE.out (j := i) (by omega) HBi.out
      by_cases h2 : i < N
      · rw [(HLT.out i h2).1] at hc
        have HC := Lib.hid hc
        clear hc
        go_wp2_with fail
        refine HC.out.mono ?_
        rintro e w6 ⟨rfl, hb6⟩
        have HB6 := Lib.hid (HBi.out.next hb6); have HW6 := Lib.hid (HWi.out.next hb6); have HF6 := Lib.hid (HFi.out.next hb6)
        clear hb6
        go_wp2_with fail
        have hs := c_VStepOk (j := i) (f := x - i - 1) HW6.out HVE.out (by omega) (by omega) (by omega) (by rw [show x - i - 1 + 1 = x - i by have := (HLT.out i h2).2.2; omega]; exact HB6.out) (HLT.out i h2).2.1
        refine hs.mono ?_
        rintro e w7 ⟨rfl, ha7, hf7⟩
        have HF7 := Lib.hid (HF6.out.trans hf7)
        have HA7 := Lib.hid ha7
        clear hs ha7 hf7
        go_wp2_with fail
        refine ⟨⟨i + 1, by omega, by go_num, rfl, by go_num, ?_, HF7.out⟩, by simp [intOf]; omega⟩
        have := HA7.out
        rw [show x - i - 1 = x - (i + 1) by omega] at this
        exact this
      · obtain rfl : i = N := by omega
        rw [HHH.out] at hc
        have HC := Lib.hid hc
        clear hc
        cases hh with
        | true =>
          obtain rfl : 0 = ee := by rw [← HEE.out]; unfold endE; rw [if_pos HHH.out]
          go_wp2_with fail
          refine HC.out.mono ?_
          rintro e w8 ⟨rfl, hb8⟩
          have HB8 := Lib.hid (HBi.out.next hb8); have HW8 := Lib.hid (HWi.out.next hb8); have HF8 := Lib.hid (HFi.out.next hb8)
          clear hb8
          have HV8 := Lib.hid (HV5.out.other HR5.out (by omega) HF8.out (fun k h1 h2 h => by have := (HQP.out k h).1; omega) (fun h => (HQP.out _ h).2.2.2 rfl))
          have HA8 := Lib.hid (HA5.out.other HF8.out (fun h => (HQP.out _ h).2.1 (.inl rfl)) (fun h => (HQP.out _ h).2.1 (.inr (.inl rfl))) (fun h => (HQP.out _ h).2.1 (.inr (.inr rfl))) (fun k hk => (HQP.out k hk).2.2.1))
          have HG8 := Lib.hid (HF5.out.trans (HF8.out.mono HOQ.out))
          have hH := Below.refl w8.heap.size w8
          go_wp2_with fail
          refine (c_VMachine (HV8.out.next hH) HVE.out (j := i) (by omega) (HA8.out.next hH)).mono ?_
          rintro e w9 ⟨vm9, vs9, vc9, vi9, vo9, sv9, rfl, hO9, hb9⟩
          have HO9 := Lib.hid hO9
          replace hH := hH.next hb9
          clear hO9 hb9
          go_wp2_with fail
          refine (c_VMachine (HW8.out.next hH) HVE.out (j := i) (by omega) (HB8.out.next hH)).mono ?_
          rintro e w10 ⟨vm10, vs10, vc10, vi10, vo10, sv10, rfl, hO10, hb10⟩
          have HO10 := Lib.hid hO10
          have HO9 := Lib.hid (HO9.out.next hb10)
          replace hH := hH.next hb10
          clear hO10 hb10
          go_wp2_with fail
          refine (c_same HO9.out.mls HO10.out.mls (HVE.out.bd i (by omega))).mono ?_
          rintro e w11 ⟨rfl, hb11⟩
          replace hH := hH.next hb11
          clear hb11
          go_wp2_with fail
          refine (c_VFuel (HV8.out.next hH) (HA8.out.next hH)).mono ?_
          rintro e w12 ⟨rfl, hb12⟩
          replace hH := hH.next hb12
          clear hb12
          go_wp2_with fail
          refine (c_VFuel (HW8.out.next hH) (HB8.out.next hH)).mono ?_
          rintro e w13 ⟨rfl, hb13⟩
          replace hH := hH.next hb13
          clear hb13
          go_wp2_with fail
          refine (c_VTicks (HV8.out.next hH) (HA8.out.next hH)).mono ?_
          rintro e w14 ⟨rfl, hb14⟩
          replace hH := hH.next hb14
          clear hb14
          go_wp2_with fail
          refine (c_VTicks (HW8.out.next hH) (HB8.out.next hH)).mono ?_
          rintro e w15 ⟨rfl, hb15⟩
          replace hH := hH.next hb15
          clear hb15
          go_wp2_with fail
          refine (show Calls Tryd.prog _ _ _ (fun e w' => e = .returned (.bool true) ∧ _) from (by have hs := c_VHalted (HV8.out.next hH) HVE.out (j := i) (by omega) (HA8.out.next hH); rw [HHH.out] at hs; exact hs)).mono ?_
          rintro e w16 ⟨rfl, hb16⟩
          replace hH := hH.next hb16
          clear hb16
          go_wp2_with fail
          refine (show Calls Tryd.prog _ _ _ (fun e w' => e = .returned (.bool true) ∧ _) from (by have hs := c_VHalted (HW8.out.next hH) HVE.out (j := i) (by omega) (HB8.out.next hH); rw [HHH.out] at hs; exact hs)).mono ?_
          rintro e w17 ⟨rfl, hb17⟩
          replace hH := hH.next hb17
          clear hb17
          go_wp2_with fail
          go_ret
          exact ⟨rfl, BEL.out _ (HG8.out.next hH)⟩
        | false =>
          go_wp2_with fail
          refine HC.out.mono ?_
          rintro e w7 ⟨rfl, hb7⟩
          have HB7 := Lib.hid (HBi.out.next hb7); have HW7 := Lib.hid (HWi.out.next hb7); have HF7 := Lib.hid (HFi.out.next hb7)
          clear hb7
          have hs : Calls Tryd.prog 19 #[.pointer (some ⟨Q.b, 0, none⟩)] w7 fun e w' => e = .returned (.int .i64 ee) ∧ VAt w' Q im.code M i (x - i) ∧ Fr Q.O w7 w' := by
            by_cases h3 : x - i = 0
            · have he : ee = 18 := by rw [← HEE.out]; unfold endE; rw [HHH.out, h3]; rfl
              have hB7 := HB7.out
              rw [h3] at hB7 ⊢
              rw [he]
              exact (c_VStep0 HW7.out hB7).mono fun e w' h => ⟨h.1, hB7.next h.2, Fr.of h.2⟩
            · have h4 : te im.code M i ≠ 0 := by
                rcases HST.out with h | h | h
                · rw [HHH.out] at h; cases h
                · omega
                · exact h
              have he : ee = te im.code M i := by rw [← HEE.out]; unfold endE; rw [HHH.out, if_neg (by simp), if_neg h3]
              have hs := c_VStepErr (j := i) (f := x - i - 1) HW7.out HVE.out (by omega) (by omega) (by omega) (by rw [show x - i - 1 + 1 = x - i by omega]; exact HB7.out) h4
              rw [show x - i - 1 + 1 = x - i by omega] at hs
              rw [he]; exact hs
          have h5 : ee ≠ 0 := by
            intro h0
            have he := HEE.out
            rw [h0] at he
            unfold endE at he
            rw [HHH.out, if_neg (by simp)] at he
            by_cases h3 : x - i = 0
            · rw [if_pos h3] at he; cases he
            · rw [if_neg h3] at he
              rcases HST.out with h | h | h
              · rw [HHH.out] at h; cases h
              · omega
              · exact h he
          have h5' : (ee != 0) = true := by simpa using h5
          have HSQ := Lib.hid hs
          clear hs h5
          go_wp2_with fail
          refine HSQ.out.mono ?_
          rintro e w8 ⟨rfl, hb8, hf8⟩
          have HB8 := Lib.hid hb8; have HW8 := Lib.hid (HW7.out.fr hf8); have HF8 := Lib.hid (HF7.out.trans hf8)
          clear hb8 hf8
          have HV8 := Lib.hid (HV5.out.other HR5.out (by omega) HF8.out (fun k h1 h2 h => by have := (HQP.out k h).1; omega) (fun h => (HQP.out _ h).2.2.2 rfl))
          have HA8 := Lib.hid (HA5.out.other HF8.out (fun h => (HQP.out _ h).2.1 (.inl rfl)) (fun h => (HQP.out _ h).2.1 (.inr (.inl rfl))) (fun h => (HQP.out _ h).2.1 (.inr (.inr rfl))) (fun k hk => (HQP.out k hk).2.2.1))
          have HG8 := Lib.hid (HF5.out.trans (HF8.out.mono HOQ.out))
          have hH := Below.refl w8.heap.size w8
          go_wp2_with fail
          refine (c_VMachine (HV8.out.next hH) HVE.out (j := i) (by omega) (HA8.out.next hH)).mono ?_
          rintro e w9 ⟨vm9, vs9, vc9, vi9, vo9, sv9, rfl, hO9, hb9⟩
          have HO9 := Lib.hid hO9
          replace hH := hH.next hb9
          clear hO9 hb9
          go_wp2_with fail
          refine (c_VMachine (HW8.out.next hH) HVE.out (j := i) (by omega) (HB8.out.next hH)).mono ?_
          rintro e w10 ⟨vm10, vs10, vc10, vi10, vo10, sv10, rfl, hO10, hb10⟩
          have HO10 := Lib.hid hO10
          have HO9 := Lib.hid (HO9.out.next hb10)
          replace hH := hH.next hb10
          clear hO10 hb10
          go_wp2_with fail
          refine (c_same HO9.out.mls HO10.out.mls (HVE.out.bd i (by omega))).mono ?_
          rintro e w11 ⟨rfl, hb11⟩
          replace hH := hH.next hb11
          clear hb11
          go_wp2_with fail
          refine (c_VFuel (HV8.out.next hH) (HA8.out.next hH)).mono ?_
          rintro e w12 ⟨rfl, hb12⟩
          replace hH := hH.next hb12
          clear hb12
          go_wp2_with fail
          refine (c_VFuel (HW8.out.next hH) (HB8.out.next hH)).mono ?_
          rintro e w13 ⟨rfl, hb13⟩
          replace hH := hH.next hb13
          clear hb13
          go_wp2_with fail
          refine (c_VTicks (HV8.out.next hH) (HA8.out.next hH)).mono ?_
          rintro e w14 ⟨rfl, hb14⟩
          replace hH := hH.next hb14
          clear hb14
          go_wp2_with fail
          refine (c_VTicks (HW8.out.next hH) (HB8.out.next hH)).mono ?_
          rintro e w15 ⟨rfl, hb15⟩
          replace hH := hH.next hb15
          clear hb15
          go_wp2_with fail
          refine (show Calls Tryd.prog _ _ _ (fun e w' => e = .returned (.bool false) ∧ _) from (by have hs := c_VHalted (HV8.out.next hH) HVE.out (j := i) (by omega) (HA8.out.next hH); rw [HHH.out] at hs; exact hs)).mono ?_
          rintro e w16 ⟨rfl, hb16⟩
          replace hH := hH.next hb16
          clear hb16
          go_wp2_with fail
          refine (show Calls Tryd.prog _ _ _ (fun e w' => e = .returned (.bool false) ∧ _) from (by have hs := c_VHalted (HW8.out.next hH) HVE.out (j := i) (by omega) (HB8.out.next hH); rw [HHH.out] at hs; exact hs)).mono ?_
          rintro e w17 ⟨rfl, hb17⟩
          replace hH := hH.next hb17
          clear hb17
          go_wp2_with fail
          go_ret
          exact ⟨rfl, BEL.out _ (HG8.out.next hH)⟩
theorem c_lawVmRunsI (A : Option Addr) (n cap : Nat) (im : Img) (M : Mach) (vm vs vc vi vo : Value) (sv : List Value) (w : World) (hC : Rd w (· < w.heap.size) 5 A n (codeCells im.code)) (hw : CodeWf im.code) (hL : MLs w (· < w.heap.size) M vm vs vc vi vo sv) (hwf : MWf M) (hl : ∀ l ∈ M.s, l.length ≤ 281474976710656) (hTab : TableAt w) (st : Int) (st0 : 0 ≤ st) (st1 : st ≤ 255) :
    Calls Tryd.prog 8 #[.agg #[.slice A n cap, .int .i64 im.mem, .int .i64 im.stacks], .agg (mcells M vm vs vc vi vo).toArray, .int .u8 st] w fun e w' => e = .returned (.bool true) ∧ Below w.heap.size w w' := by
  obtain ⟨x, rfl⟩ := Int.eq_ofNat_of_zero_le st0
  exact c_lawVmRuns A n cap im M vm vs vc vi vo sv w hC hw hL hwf hl hTab x (by omega)
end Go.Proofs.YtmdjpmfkghjlhaaDoor
