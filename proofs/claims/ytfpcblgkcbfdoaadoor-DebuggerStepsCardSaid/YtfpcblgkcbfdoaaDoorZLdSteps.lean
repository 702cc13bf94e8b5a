/- The walk of the law DebuggerSteps. -/
import Derived.Test.YtfpcblgkcbfdoaaDoorDbY
import Derived.Test.YtfpcblgkcbfdoaaDoorZOpenBo
set_option linter.unusedVariables false
set_option linter.unusedSimpArgs false
set_option maxRecDepth 100000
namespace Go.Proofs.YtfpcblgkcbfdoaaDoor
open Go.RowKit Bk
set_option maxHeartbeats 16000000 in
theorem c_lawDebuggerSteps (A : Option Addr) (n cap : Nat) (im : Img) (M : Mach) (vm vs vc vi vo : Value) (sv : List Value) (w : World) (hC : Rd w (· < w.heap.size) 5 A n (codeCells im.code)) (hw : CodeWf im.code) (hL : MLs w (· < w.heap.size) M vm vs vc vi vo sv) (hwf : MWf M) (hl : ∀ l ∈ M.s, l.length ≤ 17592186043904) (hTab : TableAt w) (l : List Bool) (vl : Value) (hS : Sl w (· < w.heap.size) 1 vl l.length (boolCells l)) :
    Calls Tryd.prog 5 #[.agg #[.slice A n cap, .int .i64 im.mem, .int .i64 im.stacks], .agg (mcells M vm vs vc vi vo).toArray, vl] w fun e w' => e = .returned (.bool true) ∧ Below w.heap.size w w' := by
  obtain ⟨v, hv⟩ : ∃ v, okD im M = v := ⟨_, rfl⟩
  have HOK := Lib.hid hv; clear hv
  have HS := Lib.hid hS
  obtain ⟨Al, cl, rfl, _⟩ := hS
  have hnn : n = im.code.length := by have := hC.1; rw [codeCells_length] at this; omega
  have HC := Lib.hid hC; have HT := Lib.hid hTab; have HL := Lib.hid hL; have HLL := Lib.hid hl; have HN := Lib.hid hnn; have HWF := Lib.hid hwf
  clear hC hTab hL hl hnn hwf
  go_enter Tryd.func5, Tryd.ntmps5
  go_upto_region 1 with fail
  refine wp_nameY ?_
  intro w1 hw1
  have hB_w1 : Below w.heap.size w w1 := by rw [hw1]; exact (by repeat' (first | (with_reducible assumption) | (with_reducible exact Below.refl _ _) | (with_reducible refine Below.alloc ?_ ?_ _) | (with_reducible refine Bk.drewN_ ?_ _) | (with_reducible refine Below.drew ?_) | (with_reducible refine Below.setCell ?_ ?_ _) | go_size))
  have K_1 : Blk w1 w.heap.size 24 #[.slice A n cap, .int .i64 im.mem, .int .i64 im.stacks] := by rw [hw1]; exact (by repeat' (first | with_reducible assumption | (refine Blk.new' ?_ _ _; simp; done) | refine Blk.alloc ?_ _ | refine Blk.drewN ?_ _ | refine Blk.drew ?_))
  have KM : Blk w1 (w.heap.size + 1) 30 (mcells M vm vs vc vi vo).toArray := by rw [hw1]; exact (by repeat' (first | with_reducible assumption | (refine Blk.new' ?_ _ _; simp; done) | refine Blk.alloc ?_ _ | refine Blk.drewN ?_ _ | refine Blk.drew ?_))
  have HM := Lib.hid ((HL.out.next hB_w1).at_ KM)
  have zz : w1.heap.size = w.heap.size + 2 := by rw [hw1]; simp
  clear hw1 KM
  obtain ⟨z_1, T_1, F_1⟩ := K_1.open_; have H_1 := Lib.hid K_1; clear K_1
  go_wp2_with fail
  refine (c_awake33 _ (HT.out.next hB_w1)).mono ?_
  rintro e w2 ⟨rfl, hb2⟩
  have hB_w2 := hB_w1.next hb2
  replace HM := Lib.hid (HM.out.next hb2)
  have K_1 : Blk w2 (w.heap.size) 24 #[.slice A n cap, .int .i64 im.mem, .int .i64 im.stacks] := Blk.next (by repeat' (first | with_reducible exact H_1.out | with_reducible exact K0_1 | (refine Blk.new' ?_ _ _; simp; done) | with_reducible refine Blk.alloc ?_ _ | with_reducible refine Blk.drewN ?_ _ | with_reducible refine Blk.drew ?_)) hb2; (try clear H_1); (try clear T_1); (try clear z_1); (try clear F_1); obtain ⟨z_1, T_1, F_1⟩ := K_1.open_; have H_1 := Lib.hid K_1; clear K_1
  have z2 := hb2.size
  clear hb2
  go_wp2_with (refine wpList_loadG 30 rfl rfl rfl (load_mach HM.out) ?_; simp only [Act.put, List.setIfInBounds_toArray, List.set_cons_succ, List.set_cons_zero])
  cases v with
  | false =>
    refine (c_MadeNone A n cap im M vm vs vc vi vo sv w2 (Rd.upL HC.out hB_w2) hw (MLs.up HL.out hB_w2) HWF.out HLL.out (HT.out.next hB_w2) HOK.out).mono ?_
    rintro e w3 ⟨rfl, hb3⟩
    have hB_w3 := hB_w2.next hb3
    clear hb3
    go_wp2_with fail
    go_ret
    exact ⟨rfl, hB_w3⟩
  | true =>
    refine (c_MadeOk A n cap im M vm vs vc vi vo sv w2 (Rd.upL HC.out hB_w2) hw (MLs.up HL.out hB_w2) HWF.out HLL.out (HT.out.next hB_w2) HOK.out).mono ?_
    rintro e w3 ⟨P, A', n', cap', rfl, hV, hA, hO, hfx, hR, hb3⟩
    have hB_w3 := hB_w2.next hb3
    replace HM := Lib.hid (HM.out.next hb3)
    have K_1 : Blk w3 (w.heap.size) 24 #[.slice A n cap, .int .i64 im.mem, .int .i64 im.stacks] := Blk.next (by repeat' (first | with_reducible exact H_1.out | with_reducible exact K0_1 | (refine Blk.new' ?_ _ _; simp; done) | with_reducible refine Blk.alloc ?_ _ | with_reducible refine Blk.drewN ?_ _ | with_reducible refine Blk.drew ?_)) hb3; (try clear H_1); (try clear T_1); (try clear z_1); (try clear F_1); obtain ⟨z_1, T_1, F_1⟩ := K_1.open_; have H_1 := Lib.hid K_1; clear K_1
    obtain ⟨hg, hck, hf⟩ := okD.facts HOK.out
    have hsm := Sm25.of hg
    have HVE : Hid (VEnv im M 100) := Lib.hid (VEnv.sm hsm hck hw HWF.out hf (by decide))
    have HSM := Lib.hid hsm
    have HV := Lib.hid hV; have HA := Lib.hid hA; have HO := Lib.hid hO; have HFX := Lib.hid hfx; have HR := Lib.hid hR
    have z3 := hb3.size
    have zb2 := hB_w2.size
    have BEL : Hid (∀ wz, Fr P.O w3 wz → Below w.heap.size w wz) := Lib.hid fun wz hf => hB_w3.trans (hf.below (B := w.heap.size) (by omega) (fun k hk => by have := (hO k hk).1; omega))
    have HNO : Hid (∀ k, k < w2.heap.size → ¬ P.O k) := Lib.hid fun k hk ho => by have := (hO k ho).1; omega
    have HM3 := Lib.hid HM.out
    have H3_1 := Lib.hid H_1.out
    clear hV hA hO hfx hR hb3 hg hck hf hsm HM
    by_cases h40 : 60 < l.length
    · have h40' : (60 : Int) < (l.length : Int) := by omega
      go_wp2_with fail
      go_ret
      exact ⟨rfl, hB_w3⟩
    have h40' : ¬ (60 : Int) < (l.length : Int) := by omega
    go_wp2_with fail
    refine (c_Clone HM3.out (HVE.out.bd 0 (by omega))).mono ?_
    rintro e w4 ⟨bx, gmx, gsx, rfl, rx1, rx2, rx3, hcl, hb4⟩
    have hB_w4 := hB_w3.next hb4
    have K_1 : Blk w4 (w.heap.size) 24 #[.slice A n cap, .int .i64 im.mem, .int .i64 im.stacks] := Blk.next (by repeat' (first | with_reducible exact H_1.out | with_reducible exact K0_1 | (refine Blk.new' ?_ _ _; simp; done) | with_reducible refine Blk.alloc ?_ _ | with_reducible refine Blk.drewN ?_ _ | with_reducible refine Blk.drew ?_)) hb4; (try clear H_1); (try clear T_1); (try clear z_1); (try clear F_1); obtain ⟨z_1, T_1, F_1⟩ := K_1.open_; have H_1 := Lib.hid K_1; clear K_1
    have z4 := hb4.size
    obtain ⟨X, hX⟩ : ∃ X : Pl, X = ⟨bx, 30, [], [], 0, gmx, gsx, (· < w3.heap.size)⟩ := ⟨_, rfl⟩
    have HX4 : Hid (MAt w4 X (tr im.code M 0)) := Lib.hid (by rw [hX]; exact hcl)
    have hXb : X.b = bx := by rw [hX]
    have hXo : X.off = 0 := by rw [hX]
    have hx3 : ∀ k, X.O k → w3.heap.size ≤ k ∧ k < w4.heap.size := by
      obtain ⟨_, _, _, _, _, _, hb'⟩ := HX4.out
      have c1 := hb'.lt; have c2 := hb'.gm; have c3 := hb'.gs
      rw [hX] at c1 c2 c3
      dsimp only at c1 c2 c3
      intro k ho
      rw [hX] at ho; rcases ho with e | e | e <;> (dsimp only at e; omega)
    have hxf : ∀ k, k < w3.heap.size → X.fx k := fun k hk => by rw [hX]; exact hk
    obtain ⟨P2, hP2⟩ : ∃ P2 : Pl, P2 = { P with fx := fun k => k < w2.heap.size ∨ (w3.heap.size ≤ k ∧ k < w4.heap.size) } := ⟨_, rfl⟩
    have HA4 : Hid (DAt w4 P2 im.code M 0) := Lib.hid (by rw [hP2]; exact HA.out.foreign hb4 (fun k hk => hk.elim (fun h => .inl (by rw [HFX.out]; exact h)) fun h => .inr h.1) (fun k hk => hk.elim (fun h => by omega) fun h => h.2))
    have HV4 : Hid (VFx w4 P2 A' n' cap' im) := Lib.hid (by rw [hP2]; exact (HV.out.next hb4).pl _)
    have hPO2 : ∀ k, P2.O k → w2.heap.size ≤ k ∧ k < w3.heap.size := fun k hk => HO.out k (by rw [hP2] at hk; exact hk)
    have hbp : P.b = P2.b := by rw [hP2]
    have hgt : 0 < w.heap.size := HT.out.lt
    have HR4 : Hid (Rd w4 (fun k => w2.heap.size ≤ k ∧ k < w3.heap.size ∧ ¬ P2.O k) 5 A' n' (codeCells im.code)) := Lib.hid (by rw [hP2]; exact HR.out.keep (fun b o hd => hb4.cell (p := ⟨b, o, none⟩) hd.2.1))
    have HXP : Hid (∀ k, X.O k → w3.heap.size ≤ k ∧ ¬ P2.O k ∧ P2.fx k ∧ k ≠ 0) := Lib.hid (fun k hk => ⟨(hx3 k hk).1, fun h => by have := (hx3 k hk).1; have := (hPO2 k h).2; omega, by rw [hP2]; exact .inr (hx3 k hk), by have := (hx3 k hk).1; omega⟩)
    have HPX : Hid (∀ k, P2.O k → k < w3.heap.size ∧ ¬ X.O k ∧ X.fx k ∧ w.heap.size + 2 ≤ k) := Lib.hid (fun k hk => ⟨(hPO2 k hk).2, fun h => by have := (hx3 k h).1; have := (hPO2 k hk).2; omega, hxf k (hPO2 k hk).2, by have := (hPO2 k hk).1; omega⟩)
    have HXO : Hid (∀ k, X.O k → w.heap.size + 2 ≤ k) := Lib.hid (fun k hk => by have := (hx3 k hk).1; omega)
    have BEL : Hid (∀ wz, Fr (fun k => w2.heap.size ≤ k) w4 wz → Below w.heap.size w wz) := Lib.hid fun wz hf => hB_w4.trans (hf.below (B := w.heap.size) (by have := hB_w4.size; omega) (fun k hk => by omega))
    have HOP : Hid (∀ k, P2.O k → w2.heap.size ≤ k) := Lib.hid fun k hk => (hPO2 k hk).1
    have HOX : Hid (∀ k, X.O k → w2.heap.size ≤ k) := Lib.hid fun k hk => by have := (hx3 k hk).1; omega
    have ENV : Hid (∀ wz, Fr (fun k => w2.heap.size ≤ k) w4 wz → Env wz X A n im.code) := Lib.hid fun wz hf => Env.oldV HC.out hw HT.out (by have := HSM.out.c; omega) (BEL.out wz hf) (fun k hk ho => by have := HXO.out k ho; omega)
    have HI4 := Lib.hid H_1.out
    rw [hbp]
    clear hP2 hbp hX hcl hb4 hx3 hxf hPO2 hgt T_1 z_1 F_1 H_1
    go_wp2_with fail
    go_loopw [9, 29] (fun v9 v29 wr => ∃ (i : Nat) (T : Int) (j : Nat), i ≤ l.length ∧ v29 = .int .i64 i ∧ v9 = .int .i64 T ∧ T = (j : Int) ∧ j ≤ i ∧ DAt wr P2 im.code M j ∧ MAt wr X (tr im.code M j) ∧ Fr (fun k => w2.heap.size ≤ k) w4 wr ∧ VFx wr P2 A' n' cap' im ∧ Rd wr (fun k => w2.heap.size ≤ k ∧ k < w3.heap.size ∧ ¬ P2.O k) 5 A' n' (codeCells im.code)) (fun _ v _ => l.length - (intOf v).toNat)
    case atStart => exact ⟨0, 0, 0, Nat.zero_le _, rfl, rfl, rfl, Nat.le_refl _, HA4.out, HX4.out, Fr.refl _ _, HV4.out, HR4.out⟩
    case round =>
      obtain ⟨i, T, j, hi, rfl, rfl, hT, hji, hA5, hX5, hF5, hV5, hR5⟩ := hrel
      have HA5 := Lib.hid hA5; have HX5 := Lib.hid hX5; have HF5 := Lib.hid hF5; have HV5 := Lib.hid hV5; have HR5 := Lib.hid hR5
      have z5 := hF5.size
      have HE : Hid (T = (j : Int)) := Lib.hid hT
      have HB : Hid (j ≤ i ∧ i ≤ 60) := Lib.hid ⟨hji, by omega⟩
      have T0 : 0 ≤ T := by omega
      have T9 : T ≤ 300 := by omega
      clear hA5 hX5 hF5 hji hT hV5 hR5
      by_cases hlt : i < l.length
      · obtain ⟨_, _, ev, _, _, hR⟩ := HS.out
        injection ev with ev _ evc
        subst ev; subst evc
        obtain ⟨bl, ol, rfl, hdl, hcell⟩ := hR.2 (by omega)
        have ec := ((BEL.out _ HF5.out).cell (p := ⟨bl, ol + i, none⟩) hdl).trans (hcell i _ (boolCells_get l i hlt))
        generalize l.getD i false = b at *
        have i0 : (0 : Int) ≤ (i : Int) := by omega
        have i1 : (i : Int) < (l.length : Int) := by omega
        have hbl : bl < wr.heap.size := by have := (BEL.out _ HF5.out).size; omega
        clear hR hcell hdl
        cases b with
        | false =>
          by_cases h4 : te im.code M j = 0
          · have H4 := Lib.hid h4; clear h4
            have K_1 : Blk wr w.heap.size 24 #[.slice A n cap, .int .i64 im.mem, .int .i64 im.stacks] := HF5.out.blk HI4.out (by omega)
            obtain ⟨z_1, T_1, F_1⟩ := K_1.open_; have H_1 := Lib.hid K_1; clear K_1
            go_wp2_with fail
            obtain ⟨_, _, _, _, _, _, hxm⟩ := HX5.out
            have hs := c_Step hxm cap im (ENV.out _ HF5.out) HVE.out.ck (HVE.out.fit j) (HVE.out.bd j (by have := HB.out; omega))
            rw [hXb, hXo] at hs
            refine (OnM.of hs (te_ok H4.out).symm).mono ?_
            rintro e w6 ⟨rfl, hm6, hf6⟩
            clear hxm
            have HX6 := Lib.hid hm6
            have HA6 := Lib.hid (HA5.out.other hf6 (fun h => (HXP.out _ h).2.1 (.inl rfl)) (fun h => (HXP.out _ h).2.1 (.inr (.inl rfl))) (fun h => (HXP.out _ h).2.1 (.inr (.inr rfl))) (fun k hk => (HXP.out k hk).2.2.1))
            have HV6 := Lib.hid (HV5.out.other HR5.out (by omega) hf6 (fun k h1 h2 h => by have := (HXP.out k h).1; omega) (fun h => (HXP.out _ h).2.2.2 rfl))
            have HR6 := Lib.hid (Rd.frR HR5.out (by omega) hf6 (fun k h1 h2 h3 h => by have := (HXP.out k h).1; omega))
            have HF6 := Lib.hid (HF5.out.trans (hf6.mono HOX.out))
            have z6 := hf6.size
            clear hs hm6 hf6 T_1 z_1 F_1 H_1
            go_wp2_with fail
            refine (c_DStepOk HV6.out HVE.out (by have := HB.out; omega) (by have := HB.out; omega) HA6.out H4.out).mono ?_
            rintro e w9 ⟨rfl, hA9, hf9⟩
            have HV9 := Lib.hid (HV6.out.fr hf9); have HF9 := Lib.hid (HF6.out.trans (hf9.mono HOP.out))
            have hX9 := HX6.out.other hf9 (fun h => (HPX.out _ h).2.1 (.inl rfl)) (fun h => (HPX.out _ h).2.1 (.inr (.inl rfl))) (fun h => (HPX.out _ h).2.1 (.inr (.inr rfl))) (fun k hk => (HPX.out k hk).2.2.1)
            have HR9 := Lib.hid (Rd.frR HR6.out (by omega) hf9 (fun k h1 h2 h3 => h3))
            clear hf9
            obtain ⟨j1, hj1⟩ : ∃ j1, j + 1 = j1 := ⟨_, rfl⟩
            have HE1 : Hid ((T + 1) = (j1 : Int)) := Lib.hid (by have := HE.out; omega)
            have HB1 : Hid (j1 ≤ i + 1 ∧ i ≤ 60) := Lib.hid (by have := HB.out; omega)
            rw [hj1] at hA9
            rw [hj1] at hX9
            have HA9 := Lib.hid hA9; have HX9 := Lib.hid hX9
            have e2 : ((j1 : Int) != (T + 1)) = false := by have := HE1.out; simp; omega
            clear hA9 hX9 hj1
            go_upto_region 21 with fail
            obtain ⟨_, _, _, _, _, _, hXR⟩ := MAt.rdV HX9.out
            rw [hXb, hXo] at hXR
            have HXR := Lib.hid hXR
            clear hXR
            refine wp_region_held_drew (S := fun W => Below w9.heap.size w9 W) (by kernel_rfl) ((Below.refl _ _).drew) (fun hH => ?_)
            refine wpAnyH_take (i := 0) (v := ?_) rfl (by kernel_rfl) (by kernel_rfl) (by kernel_rfl) (fun _ _ _ h => h) (Or.inl ⟨by rfl, ?hy⟩) hH ?_
            case hy => (intro w9_ hS9; clear hS9; go_simp; try with_reducible rfl)
            (try simp only [List.getElem_toArray, List.getElem_cons_zero, List.getElem_cons_succ, Act.put, List.setIfInBounds_toArray, List.set_cons_zero, List.set_cons_succ])
            refine wpAnyH_take (i := 1) (v := ?_) rfl (by kernel_rfl) (by kernel_rfl) (by kernel_rfl) (fun _ _ _ h => h) (Or.inl ⟨by rfl, ?hy⟩) hH ?_
            case hy => (intro w9_ hS9; clear hS9; go_simp; try with_reducible rfl)
            (try simp only [List.getElem_toArray, List.getElem_cons_zero, List.getElem_cons_succ, Act.put, List.setIfInBounds_toArray, List.set_cons_zero, List.set_cons_succ])
            refine wpAnyH_take (i := 2) (v := ?_) rfl (by kernel_rfl) (by kernel_rfl) (by kernel_rfl) (fun _ _ _ h => h) (Or.inl ⟨by rfl, ?hy⟩) hH ?_
            case hy => (intro w9_ hS9; clear hS9; go_simp; try with_reducible rfl)
            (try simp only [List.getElem_toArray, List.getElem_cons_zero, List.getElem_cons_succ, Act.put, List.setIfInBounds_toArray, List.set_cons_zero, List.set_cons_succ])
            refine wpAnyH_take (i := 3) (v := ?_) rfl (by kernel_rfl) (by kernel_rfl) (by kernel_rfl) (fun _ _ _ h => h) (Or.inl ⟨by rfl, ?hy⟩) hH ?_
            case hy => (intro w9_ hS9; clear hS9; go_simp; try with_reducible rfl)
            (try simp only [List.getElem_toArray, List.getElem_cons_zero, List.getElem_cons_succ, Act.put, List.setIfInBounds_toArray, List.set_cons_zero, List.set_cons_succ])
            refine wpAnyH_take (i := 4) (v := ?_) rfl (by kernel_rfl) (by kernel_rfl) (by kernel_rfl) (fun _ _ _ h => h) (Or.inl ⟨by rfl, ?hy⟩) hH ?_
            case hy => (intro w9_ hS9; clear hS9; go_simp; try with_reducible rfl)
            (try simp only [List.getElem_toArray, List.getElem_cons_zero, List.getElem_cons_succ, Act.put, List.setIfInBounds_toArray, List.set_cons_zero, List.set_cons_succ])
            refine wpAnyH_take (i := 6) (v := ?_) rfl (by kernel_rfl) (by kernel_rfl) (by kernel_rfl) (fun _ _ _ h => h) (Or.inl ⟨by rfl, ?hy⟩) hH ?_
            case hy => (intro w9_ hS9; clear hS9; go_simp; try with_reducible rfl)
            (try simp only [List.getElem_toArray, List.getElem_cons_zero, List.getElem_cons_succ, Act.put, List.setIfInBounds_toArray, List.set_cons_zero, List.set_cons_succ])
            refine wpAnyH_ready (rs := [5]) (by kernel_rfl) (by simp) ?_
            refine AllReadyH.cons rfl (fun K hK => ?_) (AllReadyH.nil)
            go_simp
            refine (c_DTime (HV9.out.next hH) (HA9.out.next hH)).mono ?_
            rintro e w11 ⟨rfl, hbw11⟩
            replace hH := hH.next hbw11
            clear hbw11
            refine hK.out _ _ hH (fun _ => ?_)
            clear hK
            (try simp only [List.getElem_toArray, List.getElem_cons_zero, List.getElem_cons_succ, Act.put, List.setIfInBounds_toArray, List.set_cons_zero, List.set_cons_succ])
            refine wpAnyH_take (i := 7) (v := ?_) rfl (by kernel_rfl) (by kernel_rfl) (by kernel_rfl) (fun _ _ _ h => h) (Or.inl ⟨by rfl, ?hy⟩) hH ?_
            case hy => (intro w9_ hS9; clear hS9; go_simp; try with_reducible rfl)
            (try simp only [List.getElem_toArray, List.getElem_cons_zero, List.getElem_cons_succ, Act.put, List.setIfInBounds_toArray, List.set_cons_zero, List.set_cons_succ])
            refine wpAnyH_take (i := 8) (v := ?_) rfl (by kernel_rfl) (by kernel_rfl) (by kernel_rfl) (fun _ _ _ h => h) (Or.inl ⟨by rfl, ?hy⟩) hH ?_
            case hy => (intro w9_ hS9; clear hS9; go_simp; try with_reducible rfl)
            (try simp only [List.getElem_toArray, List.getElem_cons_zero, List.getElem_cons_succ, Act.put, List.setIfInBounds_toArray, List.set_cons_zero, List.set_cons_succ])
            refine wpAnyH_take (i := 9) (v := ?_) rfl (by kernel_rfl) (by kernel_rfl) (by kernel_rfl) (fun _ _ _ h => h) (Or.inl ⟨by rfl, ?hy⟩) hH ?_
            case hy => (intro w9_ hS9; clear hS9; go_simp; try with_reducible rfl)
            (try simp only [List.getElem_toArray, List.getElem_cons_zero, List.getElem_cons_succ, Act.put, List.setIfInBounds_toArray, List.set_cons_zero, List.set_cons_succ])
            refine wpAnyH_take (i := 10) (v := ?_) rfl (by kernel_rfl) (by kernel_rfl) (by kernel_rfl) (fun _ _ _ h => h) (Or.inl ⟨by rfl, ?hy⟩) hH ?_
            case hy => (intro w9_ hS9; clear hS9; go_simp; try with_reducible rfl)
            (try simp only [List.getElem_toArray, List.getElem_cons_zero, List.getElem_cons_succ, Act.put, List.setIfInBounds_toArray, List.set_cons_zero, List.set_cons_succ])
            refine wpAnyH_take (i := 12) (v := ?_) rfl (by kernel_rfl) (by kernel_rfl) (by kernel_rfl) (fun _ _ _ h => h) (Or.inl ⟨by rfl, ?hy⟩) hH ?_
            case hy => (intro w9_ hS9; clear hS9; go_simp; try with_reducible rfl)
            (try simp only [List.getElem_toArray, List.getElem_cons_zero, List.getElem_cons_succ, Act.put, List.setIfInBounds_toArray, List.set_cons_zero, List.set_cons_succ])
            refine wpAnyH_take (i := 13) (v := ?_) rfl (by kernel_rfl) (by kernel_rfl) (by kernel_rfl) (fun _ _ _ h => h) (Or.inl ⟨by rfl, ?hy⟩) hH ?_
            case hy => (intro w9_ hS9; clear hS9; go_simp; try with_reducible rfl)
            (try simp only [List.getElem_toArray, List.getElem_cons_zero, List.getElem_cons_succ, Act.put, List.setIfInBounds_toArray, List.set_cons_zero, List.set_cons_succ])
            refine wpAnyH_take (i := 14) (v := _) rfl (by kernel_rfl) (by kernel_rfl) (by kernel_rfl) (fun _ _ _ h => h) (Or.inl ⟨by rfl, yields_load 30 (x := .tmp 65) rfl rfl (fun W hW => load_mach (HXR.out.next hW))⟩) hH ?_
            (try simp only [List.getElem_toArray, List.getElem_cons_zero, List.getElem_cons_succ, Act.put, List.setIfInBounds_toArray, List.set_cons_zero, List.set_cons_succ])
            refine wpAnyH_ready (rs := [11]) (by kernel_rfl) (by simp) ?_
            refine AllReadyH.cons rfl (fun K hK => ?_) (AllReadyH.nil)
            go_simp
            refine (c_DMachine (HV9.out.next hH) HVE.out (j := j1) (by have := HB1.out; omega) (HA9.out.next hH)).mono ?_
            rintro e w12 ⟨vm12, vs12, vc12, vi12, vo12, sv12, rfl, hO12, hb12⟩
            have HO12 := Lib.hid hO12
            replace hH := hH.next hb12
            clear hO12 hb12
            refine hK.out _ _ hH (fun _ => ?_)
            clear hK
            (try simp only [List.getElem_toArray, List.getElem_cons_zero, List.getElem_cons_succ, Act.put, List.setIfInBounds_toArray, List.set_cons_zero, List.set_cons_succ])
            refine wpAnyH_ready (rs := [15]) (by kernel_rfl) (by simp) ?_
            refine AllReadyH.cons rfl (fun K hK => ?_) (AllReadyH.nil)
            go_simp
            refine (c_same33 HO12.out.mls (HXR.out.next hH).mls (HVE.out.bd j1 (by have := HB1.out; omega))).mono ?_
            rintro e w13 ⟨rfl, hbw13⟩
            replace hH := hH.next hbw13
            clear hbw13
            refine hK.out _ _ hH (fun _ => ?_)
            clear hK
            (try simp only [List.getElem_toArray, List.getElem_cons_zero, List.getElem_cons_succ, Act.put, List.setIfInBounds_toArray, List.set_cons_zero, List.set_cons_succ])
            refine wpAnyH_take (i := 16) (v := ?_) rfl (by kernel_rfl) (by kernel_rfl) (by kernel_rfl) (fun _ _ _ h => h) (Or.inl ⟨by rfl, ?hy⟩) hH ?_
            case hy => (intro w9_ hS9; clear hS9; go_simp; try with_reducible rfl)
            (try simp only [List.getElem_toArray, List.getElem_cons_zero, List.getElem_cons_succ, Act.put, List.setIfInBounds_toArray, List.set_cons_zero, List.set_cons_succ])
            refine wpAnyH_take (i := 17) (v := ?_) rfl (by kernel_rfl) (by kernel_rfl) (by kernel_rfl) (fun _ _ _ h => h) (Or.inl ⟨by rfl, ?hy⟩) hH ?_
            case hy => (intro w9_ hS9; clear hS9; go_simp; try with_reducible rfl)
            (try simp only [List.getElem_toArray, List.getElem_cons_zero, List.getElem_cons_succ, Act.put, List.setIfInBounds_toArray, List.set_cons_zero, List.set_cons_succ])
            refine wpAnyH_done (by kernel_rfl) ?_ _
            go_wp2_with fail
            exact ⟨⟨i + 1, (T + 1), j1, by omega, by go_num, rfl, HE1.out, by have := HB1.out; omega, HA9.out.next hH, HX9.out.next hH, HF9.out.next hH, HV9.out.next hH, HR9.out.keep (fun b o hd => hH.cell (p := ⟨b, o, none⟩) (by have := hd.2.1; have := HF9.out.size; show b < w9.heap.size; omega))⟩, by simp [intOf]; omega⟩
          · have hst := te_err h4
            have hvs := fun (ww : World) (hV : VFx ww P2 A' n' cap' im) (hA : DAt ww P2 im.code M j) => c_DStepErr hV HVE.out (by have := HB.out; omega) hA h4
            generalize te im.code M j = ee at *
            have e3 : (ee == 0) = false := by simpa using h4
            have HST := Lib.hid hst; have HVS := Lib.hid hvs
            clear hst hvs h4
            have K_1 : Blk wr w.heap.size 24 #[.slice A n cap, .int .i64 im.mem, .int .i64 im.stacks] := HF5.out.blk HI4.out (by omega)
            obtain ⟨z_1, T_1, F_1⟩ := K_1.open_; have H_1 := Lib.hid K_1; clear K_1
            go_wp2_with fail
            obtain ⟨_, _, _, _, _, _, hxm⟩ := HX5.out
            have hs := c_Step hxm cap im (ENV.out _ HF5.out) HVE.out.ck (HVE.out.fit j) (HVE.out.bd j (by have := HB.out; omega))
            rw [hXb, hXo] at hs
            refine (OnM.of hs HST.out.symm).mono ?_
            rintro e w6 ⟨rfl, hm6, hf6⟩
            clear hxm
            have HX6 := Lib.hid hm6
            have HA6 := Lib.hid (HA5.out.other hf6 (fun h => (HXP.out _ h).2.1 (.inl rfl)) (fun h => (HXP.out _ h).2.1 (.inr (.inl rfl))) (fun h => (HXP.out _ h).2.1 (.inr (.inr rfl))) (fun k hk => (HXP.out k hk).2.2.1))
            have HV6 := Lib.hid (HV5.out.other HR5.out (by omega) hf6 (fun k h1 h2 h => by have := (HXP.out k h).1; omega) (fun h => (HXP.out _ h).2.2.2 rfl))
            have HR6 := Lib.hid (Rd.frR HR5.out (by omega) hf6 (fun k h1 h2 h3 h => by have := (HXP.out k h).1; omega))
            have HF6 := Lib.hid (HF5.out.trans (hf6.mono HOX.out))
            have z6 := hf6.size
            clear hs hm6 hf6 T_1 z_1 F_1 H_1
            go_wp2_with fail
            refine (HVS.out _ HV6.out HA6.out).mono ?_
            rintro e w9 ⟨rfl, hA9, hf9⟩
            have HV9 := Lib.hid (HV6.out.fr hf9); have HF9 := Lib.hid (HF6.out.trans (hf9.mono HOP.out))
            have hX9 := HX6.out.other hf9 (fun h => (HPX.out _ h).2.1 (.inl rfl)) (fun h => (HPX.out _ h).2.1 (.inr (.inl rfl))) (fun h => (HPX.out _ h).2.1 (.inr (.inr rfl))) (fun k hk => (HPX.out k hk).2.2.1)
            have HR9 := Lib.hid (Rd.frR HR6.out (by omega) hf9 (fun k h1 h2 h3 => h3))
            clear hf9
            obtain ⟨j1, hj1⟩ : ∃ j1, j = j1 := ⟨_, rfl⟩
            have HE1 : Hid (T = (j1 : Int)) := Lib.hid (by have := HE.out; omega)
            have HB1 : Hid (j1 ≤ i + 1 ∧ i ≤ 60) := Lib.hid (by have := HB.out; omega)
            rw [hj1] at hA9
            rw [hj1] at hX9
            have HA9 := Lib.hid hA9; have HX9 := Lib.hid hX9
            have e2 : ((j1 : Int) != T) = false := by have := HE1.out; simp; omega
            clear hA9 hX9 hj1
            go_upto_region 21 with fail
            obtain ⟨_, _, _, _, _, _, hXR⟩ := MAt.rdV HX9.out
            rw [hXb, hXo] at hXR
            have HXR := Lib.hid hXR
            clear hXR
            refine wp_region_held_drew (S := fun W => Below w9.heap.size w9 W) (by kernel_rfl) ((Below.refl _ _).drew) (fun hH => ?_)
            refine wpAnyH_take (i := 0) (v := ?_) rfl (by kernel_rfl) (by kernel_rfl) (by kernel_rfl) (fun _ _ _ h => h) (Or.inl ⟨by rfl, ?hy⟩) hH ?_
            case hy => (intro w9_ hS9; clear hS9; go_simp; try with_reducible rfl)
            (try simp only [List.getElem_toArray, List.getElem_cons_zero, List.getElem_cons_succ, Act.put, List.setIfInBounds_toArray, List.set_cons_zero, List.set_cons_succ])
            refine wpAnyH_take (i := 1) (v := ?_) rfl (by kernel_rfl) (by kernel_rfl) (by kernel_rfl) (fun _ _ _ h => h) (Or.inl ⟨by rfl, ?hy⟩) hH ?_
            case hy => (intro w9_ hS9; clear hS9; go_simp; try with_reducible rfl)
            (try simp only [List.getElem_toArray, List.getElem_cons_zero, List.getElem_cons_succ, Act.put, List.setIfInBounds_toArray, List.set_cons_zero, List.set_cons_succ])
            refine wpAnyH_take (i := 2) (v := ?_) rfl (by kernel_rfl) (by kernel_rfl) (by kernel_rfl) (fun _ _ _ h => h) (Or.inl ⟨by rfl, ?hy⟩) hH ?_
            case hy => (intro w9_ hS9; clear hS9; go_simp; try with_reducible rfl)
            (try simp only [List.getElem_toArray, List.getElem_cons_zero, List.getElem_cons_succ, Act.put, List.setIfInBounds_toArray, List.set_cons_zero, List.set_cons_succ])
            refine wpAnyH_take (i := 3) (v := ?_) rfl (by kernel_rfl) (by kernel_rfl) (by kernel_rfl) (fun _ _ _ h => h) (Or.inl ⟨by rfl, ?hy⟩) hH ?_
            case hy => (intro w9_ hS9; clear hS9; go_simp; try with_reducible rfl)
            (try simp only [List.getElem_toArray, List.getElem_cons_zero, List.getElem_cons_succ, Act.put, List.setIfInBounds_toArray, List.set_cons_zero, List.set_cons_succ])
            refine wpAnyH_take (i := 4) (v := ?_) rfl (by kernel_rfl) (by kernel_rfl) (by kernel_rfl) (fun _ _ _ h => h) (Or.inl ⟨by rfl, ?hy⟩) hH ?_
            case hy => (intro w9_ hS9; clear hS9; go_simp; try with_reducible rfl)
            (try simp only [List.getElem_toArray, List.getElem_cons_zero, List.getElem_cons_succ, Act.put, List.setIfInBounds_toArray, List.set_cons_zero, List.set_cons_succ])
            refine wpAnyH_take (i := 6) (v := ?_) rfl (by kernel_rfl) (by kernel_rfl) (by kernel_rfl) (fun _ _ _ h => h) (Or.inl ⟨by rfl, ?hy⟩) hH ?_
            case hy => (intro w9_ hS9; clear hS9; go_simp; try with_reducible rfl)
            (try simp only [List.getElem_toArray, List.getElem_cons_zero, List.getElem_cons_succ, Act.put, List.setIfInBounds_toArray, List.set_cons_zero, List.set_cons_succ])
            refine wpAnyH_ready (rs := [5]) (by kernel_rfl) (by simp) ?_
            refine AllReadyH.cons rfl (fun K hK => ?_) (AllReadyH.nil)
            go_simp
            refine (c_DTime (HV9.out.next hH) (HA9.out.next hH)).mono ?_
            rintro e w11 ⟨rfl, hbw11⟩
            replace hH := hH.next hbw11
            clear hbw11
            refine hK.out _ _ hH (fun _ => ?_)
            clear hK
            (try simp only [List.getElem_toArray, List.getElem_cons_zero, List.getElem_cons_succ, Act.put, List.setIfInBounds_toArray, List.set_cons_zero, List.set_cons_succ])
            refine wpAnyH_take (i := 7) (v := ?_) rfl (by kernel_rfl) (by kernel_rfl) (by kernel_rfl) (fun _ _ _ h => h) (Or.inl ⟨by rfl, ?hy⟩) hH ?_
            case hy => (intro w9_ hS9; clear hS9; go_simp; try with_reducible rfl)
            (try simp only [List.getElem_toArray, List.getElem_cons_zero, List.getElem_cons_succ, Act.put, List.setIfInBounds_toArray, List.set_cons_zero, List.set_cons_succ])
            refine wpAnyH_take (i := 8) (v := ?_) rfl (by kernel_rfl) (by kernel_rfl) (by kernel_rfl) (fun _ _ _ h => h) (Or.inl ⟨by rfl, ?hy⟩) hH ?_
            case hy => (intro w9_ hS9; clear hS9; go_simp; try with_reducible rfl)
            (try simp only [List.getElem_toArray, List.getElem_cons_zero, List.getElem_cons_succ, Act.put, List.setIfInBounds_toArray, List.set_cons_zero, List.set_cons_succ])
            refine wpAnyH_take (i := 9) (v := ?_) rfl (by kernel_rfl) (by kernel_rfl) (by kernel_rfl) (fun _ _ _ h => h) (Or.inl ⟨by rfl, ?hy⟩) hH ?_
            case hy => (intro w9_ hS9; clear hS9; go_simp; try with_reducible rfl)
            (try simp only [List.getElem_toArray, List.getElem_cons_zero, List.getElem_cons_succ, Act.put, List.setIfInBounds_toArray, List.set_cons_zero, List.set_cons_succ])
            refine wpAnyH_take (i := 10) (v := ?_) rfl (by kernel_rfl) (by kernel_rfl) (by kernel_rfl) (fun _ _ _ h => h) (Or.inl ⟨by rfl, ?hy⟩) hH ?_
            case hy => (intro w9_ hS9; clear hS9; go_simp; try with_reducible rfl)
            (try simp only [List.getElem_toArray, List.getElem_cons_zero, List.getElem_cons_succ, Act.put, List.setIfInBounds_toArray, List.set_cons_zero, List.set_cons_succ])
            refine wpAnyH_take (i := 12) (v := ?_) rfl (by kernel_rfl) (by kernel_rfl) (by kernel_rfl) (fun _ _ _ h => h) (Or.inl ⟨by rfl, ?hy⟩) hH ?_
            case hy => (intro w9_ hS9; clear hS9; go_simp; try with_reducible rfl)
            (try simp only [List.getElem_toArray, List.getElem_cons_zero, List.getElem_cons_succ, Act.put, List.setIfInBounds_toArray, List.set_cons_zero, List.set_cons_succ])
            refine wpAnyH_take (i := 13) (v := ?_) rfl (by kernel_rfl) (by kernel_rfl) (by kernel_rfl) (fun _ _ _ h => h) (Or.inl ⟨by rfl, ?hy⟩) hH ?_
            case hy => (intro w9_ hS9; clear hS9; go_simp; try with_reducible rfl)
            (try simp only [List.getElem_toArray, List.getElem_cons_zero, List.getElem_cons_succ, Act.put, List.setIfInBounds_toArray, List.set_cons_zero, List.set_cons_succ])
            refine wpAnyH_take (i := 14) (v := _) rfl (by kernel_rfl) (by kernel_rfl) (by kernel_rfl) (fun _ _ _ h => h) (Or.inl ⟨by rfl, yields_load 30 (x := .tmp 65) rfl rfl (fun W hW => load_mach (HXR.out.next hW))⟩) hH ?_
            (try simp only [List.getElem_toArray, List.getElem_cons_zero, List.getElem_cons_succ, Act.put, List.setIfInBounds_toArray, List.set_cons_zero, List.set_cons_succ])
            refine wpAnyH_ready (rs := [11]) (by kernel_rfl) (by simp) ?_
            refine AllReadyH.cons rfl (fun K hK => ?_) (AllReadyH.nil)
            go_simp
            refine (c_DMachine (HV9.out.next hH) HVE.out (j := j1) (by have := HB1.out; omega) (HA9.out.next hH)).mono ?_
            rintro e w12 ⟨vm12, vs12, vc12, vi12, vo12, sv12, rfl, hO12, hb12⟩
            have HO12 := Lib.hid hO12
            replace hH := hH.next hb12
            clear hO12 hb12
            refine hK.out _ _ hH (fun _ => ?_)
            clear hK
            (try simp only [List.getElem_toArray, List.getElem_cons_zero, List.getElem_cons_succ, Act.put, List.setIfInBounds_toArray, List.set_cons_zero, List.set_cons_succ])
            refine wpAnyH_ready (rs := [15]) (by kernel_rfl) (by simp) ?_
            refine AllReadyH.cons rfl (fun K hK => ?_) (AllReadyH.nil)
            go_simp
            refine (c_same33 HO12.out.mls (HXR.out.next hH).mls (HVE.out.bd j1 (by have := HB1.out; omega))).mono ?_
            rintro e w13 ⟨rfl, hbw13⟩
            replace hH := hH.next hbw13
            clear hbw13
            refine hK.out _ _ hH (fun _ => ?_)
            clear hK
            (try simp only [List.getElem_toArray, List.getElem_cons_zero, List.getElem_cons_succ, Act.put, List.setIfInBounds_toArray, List.set_cons_zero, List.set_cons_succ])
            refine wpAnyH_take (i := 16) (v := ?_) rfl (by kernel_rfl) (by kernel_rfl) (by kernel_rfl) (fun _ _ _ h => h) (Or.inl ⟨by rfl, ?hy⟩) hH ?_
            case hy => (intro w9_ hS9; clear hS9; go_simp; try with_reducible rfl)
            (try simp only [List.getElem_toArray, List.getElem_cons_zero, List.getElem_cons_succ, Act.put, List.setIfInBounds_toArray, List.set_cons_zero, List.set_cons_succ])
            refine wpAnyH_take (i := 17) (v := ?_) rfl (by kernel_rfl) (by kernel_rfl) (by kernel_rfl) (fun _ _ _ h => h) (Or.inl ⟨by rfl, ?hy⟩) hH ?_
            case hy => (intro w9_ hS9; clear hS9; go_simp; try with_reducible rfl)
            (try simp only [List.getElem_toArray, List.getElem_cons_zero, List.getElem_cons_succ, Act.put, List.setIfInBounds_toArray, List.set_cons_zero, List.set_cons_succ])
            refine wpAnyH_done (by kernel_rfl) ?_ _
            go_wp2_with fail
            exact ⟨⟨i + 1, T, j1, by omega, by go_num, rfl, HE1.out, by have := HB1.out; omega, HA9.out.next hH, HX9.out.next hH, HF9.out.next hH, HV9.out.next hH, HR9.out.keep (fun b o hd => hH.cell (p := ⟨b, o, none⟩) (by have := hd.2.1; have := HF9.out.size; show b < w9.heap.size; omega))⟩, by simp [intOf]; omega⟩
        | true =>
          by_cases h1 : j = 0
          · subst h1
            have fz : ¬ 0 < T := by have := HE.out; omega
            go_wp2_with fail
            refine (c_DBack0 HV5.out HA5.out).mono ?_
            rintro e w9 ⟨rfl, hb9⟩
            have HV9 := Lib.hid (HV5.out.next hb9); have HF9 := Lib.hid (HF5.out.next hb9); have hA9 := HA5.out.next hb9; have hX9 := HX5.out.next hb9
            have HR9 := Lib.hid (HR5.out.keep (fun b o hd => hb9.cell (p := ⟨b, o, none⟩) (by have := hd.2.1; show b < wr.heap.size; omega)))
            clear hb9
            obtain ⟨j1, hj1⟩ : ∃ j1, 0 = j1 := ⟨_, rfl⟩
            have HE1 : Hid (T = (j1 : Int)) := Lib.hid (by have := HE.out; omega)
            have HB1 : Hid (j1 ≤ i + 1 ∧ i ≤ 60) := Lib.hid (by have := HB.out; omega)
            rw [hj1] at hA9
            rw [hj1] at hX9
            have HA9 := Lib.hid hA9; have HX9 := Lib.hid hX9
            have e2 : ((j1 : Int) != T) = false := by have := HE1.out; simp; omega
            clear hA9 hX9 hj1
            go_upto_region 21 with fail
            obtain ⟨_, _, _, _, _, _, hXR⟩ := MAt.rdV HX9.out
            rw [hXb, hXo] at hXR
            have HXR := Lib.hid hXR
            clear hXR
            refine wp_region_held_drew (S := fun W => Below w9.heap.size w9 W) (by kernel_rfl) ((Below.refl _ _).drew) (fun hH => ?_)
            refine wpAnyH_take (i := 0) (v := ?_) rfl (by kernel_rfl) (by kernel_rfl) (by kernel_rfl) (fun _ _ _ h => h) (Or.inl ⟨by rfl, ?hy⟩) hH ?_
            case hy => (intro w9_ hS9; clear hS9; go_simp; try with_reducible rfl)
            (try simp only [List.getElem_toArray, List.getElem_cons_zero, List.getElem_cons_succ, Act.put, List.setIfInBounds_toArray, List.set_cons_zero, List.set_cons_succ])
            refine wpAnyH_take (i := 1) (v := ?_) rfl (by kernel_rfl) (by kernel_rfl) (by kernel_rfl) (fun _ _ _ h => h) (Or.inl ⟨by rfl, ?hy⟩) hH ?_
            case hy => (intro w9_ hS9; clear hS9; go_simp; try with_reducible rfl)
            (try simp only [List.getElem_toArray, List.getElem_cons_zero, List.getElem_cons_succ, Act.put, List.setIfInBounds_toArray, List.set_cons_zero, List.set_cons_succ])
            refine wpAnyH_take (i := 2) (v := ?_) rfl (by kernel_rfl) (by kernel_rfl) (by kernel_rfl) (fun _ _ _ h => h) (Or.inl ⟨by rfl, ?hy⟩) hH ?_
            case hy => (intro w9_ hS9; clear hS9; go_simp; try with_reducible rfl)
            (try simp only [List.getElem_toArray, List.getElem_cons_zero, List.getElem_cons_succ, Act.put, List.setIfInBounds_toArray, List.set_cons_zero, List.set_cons_succ])
            refine wpAnyH_take (i := 3) (v := ?_) rfl (by kernel_rfl) (by kernel_rfl) (by kernel_rfl) (fun _ _ _ h => h) (Or.inl ⟨by rfl, ?hy⟩) hH ?_
            case hy => (intro w9_ hS9; clear hS9; go_simp; try with_reducible rfl)
            (try simp only [List.getElem_toArray, List.getElem_cons_zero, List.getElem_cons_succ, Act.put, List.setIfInBounds_toArray, List.set_cons_zero, List.set_cons_succ])
            refine wpAnyH_take (i := 4) (v := ?_) rfl (by kernel_rfl) (by kernel_rfl) (by kernel_rfl) (fun _ _ _ h => h) (Or.inl ⟨by rfl, ?hy⟩) hH ?_
            case hy => (intro w9_ hS9; clear hS9; go_simp; try with_reducible rfl)
            (try simp only [List.getElem_toArray, List.getElem_cons_zero, List.getElem_cons_succ, Act.put, List.setIfInBounds_toArray, List.set_cons_zero, List.set_cons_succ])
            refine wpAnyH_take (i := 6) (v := ?_) rfl (by kernel_rfl) (by kernel_rfl) (by kernel_rfl) (fun _ _ _ h => h) (Or.inl ⟨by rfl, ?hy⟩) hH ?_
            case hy => (intro w9_ hS9; clear hS9; go_simp; try with_reducible rfl)
            (try simp only [List.getElem_toArray, List.getElem_cons_zero, List.getElem_cons_succ, Act.put, List.setIfInBounds_toArray, List.set_cons_zero, List.set_cons_succ])
            refine wpAnyH_ready (rs := [5]) (by kernel_rfl) (by simp) ?_
            refine AllReadyH.cons rfl (fun K hK => ?_) (AllReadyH.nil)
            go_simp
            refine (c_DTime (HV9.out.next hH) (HA9.out.next hH)).mono ?_
            rintro e w11 ⟨rfl, hbw11⟩
            replace hH := hH.next hbw11
            clear hbw11
            refine hK.out _ _ hH (fun _ => ?_)
            clear hK
            (try simp only [List.getElem_toArray, List.getElem_cons_zero, List.getElem_cons_succ, Act.put, List.setIfInBounds_toArray, List.set_cons_zero, List.set_cons_succ])
            refine wpAnyH_take (i := 7) (v := ?_) rfl (by kernel_rfl) (by kernel_rfl) (by kernel_rfl) (fun _ _ _ h => h) (Or.inl ⟨by rfl, ?hy⟩) hH ?_
            case hy => (intro w9_ hS9; clear hS9; go_simp; try with_reducible rfl)
            (try simp only [List.getElem_toArray, List.getElem_cons_zero, List.getElem_cons_succ, Act.put, List.setIfInBounds_toArray, List.set_cons_zero, List.set_cons_succ])
            refine wpAnyH_take (i := 8) (v := ?_) rfl (by kernel_rfl) (by kernel_rfl) (by kernel_rfl) (fun _ _ _ h => h) (Or.inl ⟨by rfl, ?hy⟩) hH ?_
            case hy => (intro w9_ hS9; clear hS9; go_simp; try with_reducible rfl)
            (try simp only [List.getElem_toArray, List.getElem_cons_zero, List.getElem_cons_succ, Act.put, List.setIfInBounds_toArray, List.set_cons_zero, List.set_cons_succ])
            refine wpAnyH_take (i := 9) (v := ?_) rfl (by kernel_rfl) (by kernel_rfl) (by kernel_rfl) (fun _ _ _ h => h) (Or.inl ⟨by rfl, ?hy⟩) hH ?_
            case hy => (intro w9_ hS9; clear hS9; go_simp; try with_reducible rfl)
            (try simp only [List.getElem_toArray, List.getElem_cons_zero, List.getElem_cons_succ, Act.put, List.setIfInBounds_toArray, List.set_cons_zero, List.set_cons_succ])
            refine wpAnyH_take (i := 10) (v := ?_) rfl (by kernel_rfl) (by kernel_rfl) (by kernel_rfl) (fun _ _ _ h => h) (Or.inl ⟨by rfl, ?hy⟩) hH ?_
            case hy => (intro w9_ hS9; clear hS9; go_simp; try with_reducible rfl)
            (try simp only [List.getElem_toArray, List.getElem_cons_zero, List.getElem_cons_succ, Act.put, List.setIfInBounds_toArray, List.set_cons_zero, List.set_cons_succ])
            refine wpAnyH_take (i := 12) (v := ?_) rfl (by kernel_rfl) (by kernel_rfl) (by kernel_rfl) (fun _ _ _ h => h) (Or.inl ⟨by rfl, ?hy⟩) hH ?_
            case hy => (intro w9_ hS9; clear hS9; go_simp; try with_reducible rfl)
            (try simp only [List.getElem_toArray, List.getElem_cons_zero, List.getElem_cons_succ, Act.put, List.setIfInBounds_toArray, List.set_cons_zero, List.set_cons_succ])
            refine wpAnyH_take (i := 13) (v := ?_) rfl (by kernel_rfl) (by kernel_rfl) (by kernel_rfl) (fun _ _ _ h => h) (Or.inl ⟨by rfl, ?hy⟩) hH ?_
            case hy => (intro w9_ hS9; clear hS9; go_simp; try with_reducible rfl)
            (try simp only [List.getElem_toArray, List.getElem_cons_zero, List.getElem_cons_succ, Act.put, List.setIfInBounds_toArray, List.set_cons_zero, List.set_cons_succ])
            refine wpAnyH_take (i := 14) (v := _) rfl (by kernel_rfl) (by kernel_rfl) (by kernel_rfl) (fun _ _ _ h => h) (Or.inl ⟨by rfl, yields_load 30 (x := .tmp 65) rfl rfl (fun W hW => load_mach (HXR.out.next hW))⟩) hH ?_
            (try simp only [List.getElem_toArray, List.getElem_cons_zero, List.getElem_cons_succ, Act.put, List.setIfInBounds_toArray, List.set_cons_zero, List.set_cons_succ])
            refine wpAnyH_ready (rs := [11]) (by kernel_rfl) (by simp) ?_
            refine AllReadyH.cons rfl (fun K hK => ?_) (AllReadyH.nil)
            go_simp
            refine (c_DMachine (HV9.out.next hH) HVE.out (j := j1) (by have := HB1.out; omega) (HA9.out.next hH)).mono ?_
            rintro e w12 ⟨vm12, vs12, vc12, vi12, vo12, sv12, rfl, hO12, hb12⟩
            have HO12 := Lib.hid hO12
            replace hH := hH.next hb12
            clear hO12 hb12
            refine hK.out _ _ hH (fun _ => ?_)
            clear hK
            (try simp only [List.getElem_toArray, List.getElem_cons_zero, List.getElem_cons_succ, Act.put, List.setIfInBounds_toArray, List.set_cons_zero, List.set_cons_succ])
            refine wpAnyH_ready (rs := [15]) (by kernel_rfl) (by simp) ?_
            refine AllReadyH.cons rfl (fun K hK => ?_) (AllReadyH.nil)
            go_simp
            refine (c_same33 HO12.out.mls (HXR.out.next hH).mls (HVE.out.bd j1 (by have := HB1.out; omega))).mono ?_
            rintro e w13 ⟨rfl, hbw13⟩
            replace hH := hH.next hbw13
            clear hbw13
            refine hK.out _ _ hH (fun _ => ?_)
            clear hK
            (try simp only [List.getElem_toArray, List.getElem_cons_zero, List.getElem_cons_succ, Act.put, List.setIfInBounds_toArray, List.set_cons_zero, List.set_cons_succ])
            refine wpAnyH_take (i := 16) (v := ?_) rfl (by kernel_rfl) (by kernel_rfl) (by kernel_rfl) (fun _ _ _ h => h) (Or.inl ⟨by rfl, ?hy⟩) hH ?_
            case hy => (intro w9_ hS9; clear hS9; go_simp; try with_reducible rfl)
            (try simp only [List.getElem_toArray, List.getElem_cons_zero, List.getElem_cons_succ, Act.put, List.setIfInBounds_toArray, List.set_cons_zero, List.set_cons_succ])
            refine wpAnyH_take (i := 17) (v := ?_) rfl (by kernel_rfl) (by kernel_rfl) (by kernel_rfl) (fun _ _ _ h => h) (Or.inl ⟨by rfl, ?hy⟩) hH ?_
            case hy => (intro w9_ hS9; clear hS9; go_simp; try with_reducible rfl)
            (try simp only [List.getElem_toArray, List.getElem_cons_zero, List.getElem_cons_succ, Act.put, List.setIfInBounds_toArray, List.set_cons_zero, List.set_cons_succ])
            refine wpAnyH_done (by kernel_rfl) ?_ _
            go_wp2_with fail
            exact ⟨⟨i + 1, T, j1, by omega, by go_num, rfl, HE1.out, by have := HB1.out; omega, HA9.out.next hH, HX9.out.next hH, HF9.out.next hH, HV9.out.next hH, HR9.out.keep (fun b o hd => hH.cell (p := ⟨b, o, none⟩) (by have := hd.2.1; have := HF9.out.size; show b < w9.heap.size; omega))⟩, by simp [intOf]; omega⟩
          · obtain ⟨jj, rfl⟩ : ∃ jj, j = jj + 1 := ⟨j - 1, by omega⟩
            have fz : 0 < T := by have := HE.out; omega
            have h4 : te im.code M jj = 0 := HA5.out.2 jj (by omega)
            have H4 := Lib.hid h4; clear h4
            have K_1 : Blk wr w.heap.size 24 #[.slice A n cap, .int .i64 im.mem, .int .i64 im.stacks] := HF5.out.blk HI4.out (by omega)
            obtain ⟨z_1, T_1, F_1⟩ := K_1.open_; have H_1 := Lib.hid K_1; clear K_1
            go_wp2_with fail
            obtain ⟨_, _, _, _, _, _, hxm⟩ := HX5.out
            have hs := c_Back hxm cap im (ENV.out _ HF5.out) HVE.out.ck (HVE.out.fit (jj + 1)) (HVE.out.bd (jj + 1) (by have := HB.out; omega))
            rw [hXb, hXo] at hs
            refine (OnM.of hs (HVE.out.back H4.out).symm).mono ?_
            rintro e w6 ⟨rfl, hm6, hf6⟩
            clear hxm
            have HX6 := Lib.hid hm6
            have HA6 := Lib.hid (HA5.out.other hf6 (fun h => (HXP.out _ h).2.1 (.inl rfl)) (fun h => (HXP.out _ h).2.1 (.inr (.inl rfl))) (fun h => (HXP.out _ h).2.1 (.inr (.inr rfl))) (fun k hk => (HXP.out k hk).2.2.1))
            have HV6 := Lib.hid (HV5.out.other HR5.out (by omega) hf6 (fun k h1 h2 h => by have := (HXP.out k h).1; omega) (fun h => (HXP.out _ h).2.2.2 rfl))
            have HR6 := Lib.hid (Rd.frR HR5.out (by omega) hf6 (fun k h1 h2 h3 h => by have := (HXP.out k h).1; omega))
            have HF6 := Lib.hid (HF5.out.trans (hf6.mono HOX.out))
            have z6 := hf6.size
            clear hs hm6 hf6 T_1 z_1 F_1 H_1
            go_wp2_with fail
            refine (c_DBackOk HV6.out HVE.out (by have := HB.out; omega) (by have := HB.out; omega) (by have := HB.out; omega) HA6.out).mono ?_
            rintro e w9 ⟨rfl, hA9, hf9⟩
            have HV9 := Lib.hid (HV6.out.fr hf9); have HF9 := Lib.hid (HF6.out.trans (hf9.mono HOP.out))
            have hX9 := HX6.out.other hf9 (fun h => (HPX.out _ h).2.1 (.inl rfl)) (fun h => (HPX.out _ h).2.1 (.inr (.inl rfl))) (fun h => (HPX.out _ h).2.1 (.inr (.inr rfl))) (fun k hk => (HPX.out k hk).2.2.1)
            have HR9 := Lib.hid (Rd.frR HR6.out (by omega) hf9 (fun k h1 h2 h3 => h3))
            clear hf9
            obtain ⟨j1, hj1⟩ : ∃ j1, jj = j1 := ⟨_, rfl⟩
            have HE1 : Hid ((T - 1) = (j1 : Int)) := Lib.hid (by have := HE.out; omega)
            have HB1 : Hid (j1 ≤ i + 1 ∧ i ≤ 60) := Lib.hid (by have := HB.out; omega)
            rw [hj1] at hA9
            rw [hj1] at hX9
            have HA9 := Lib.hid hA9; have HX9 := Lib.hid hX9
            have e2 : ((j1 : Int) != (T - 1)) = false := by have := HE1.out; simp; omega
            clear hA9 hX9 hj1
            go_upto_region 21 with fail
            obtain ⟨_, _, _, _, _, _, hXR⟩ := MAt.rdV HX9.out
            rw [hXb, hXo] at hXR
            have HXR := Lib.hid hXR
            clear hXR
            refine wp_region_held_drew (S := fun W => Below w9.heap.size w9 W) (by kernel_rfl) ((Below.refl _ _).drew) (fun hH => ?_)
            refine wpAnyH_take (i := 0) (v := ?_) rfl (by kernel_rfl) (by kernel_rfl) (by kernel_rfl) (fun _ _ _ h => h) (Or.inl ⟨by rfl, ?hy⟩) hH ?_
            case hy => (intro w9_ hS9; clear hS9; go_simp; try with_reducible rfl)
            (try simp only [List.getElem_toArray, List.getElem_cons_zero, List.getElem_cons_succ, Act.put, List.setIfInBounds_toArray, List.set_cons_zero, List.set_cons_succ])
            refine wpAnyH_take (i := 1) (v := ?_) rfl (by kernel_rfl) (by kernel_rfl) (by kernel_rfl) (fun _ _ _ h => h) (Or.inl ⟨by rfl, ?hy⟩) hH ?_
            case hy => (intro w9_ hS9; clear hS9; go_simp; try with_reducible rfl)
            (try simp only [List.getElem_toArray, List.getElem_cons_zero, List.getElem_cons_succ, Act.put, List.setIfInBounds_toArray, List.set_cons_zero, List.set_cons_succ])
            refine wpAnyH_take (i := 2) (v := ?_) rfl (by kernel_rfl) (by kernel_rfl) (by kernel_rfl) (fun _ _ _ h => h) (Or.inl ⟨by rfl, ?hy⟩) hH ?_
            case hy => (intro w9_ hS9; clear hS9; go_simp; try with_reducible rfl)
            (try simp only [List.getElem_toArray, List.getElem_cons_zero, List.getElem_cons_succ, Act.put, List.setIfInBounds_toArray, List.set_cons_zero, List.set_cons_succ])
            refine wpAnyH_take (i := 3) (v := ?_) rfl (by kernel_rfl) (by kernel_rfl) (by kernel_rfl) (fun _ _ _ h => h) (Or.inl ⟨by rfl, ?hy⟩) hH ?_
            case hy => (intro w9_ hS9; clear hS9; go_simp; try with_reducible rfl)
            (try simp only [List.getElem_toArray, List.getElem_cons_zero, List.getElem_cons_succ, Act.put, List.setIfInBounds_toArray, List.set_cons_zero, List.set_cons_succ])
            refine wpAnyH_take (i := 4) (v := ?_) rfl (by kernel_rfl) (by kernel_rfl) (by kernel_rfl) (fun _ _ _ h => h) (Or.inl ⟨by rfl, ?hy⟩) hH ?_
            case hy => (intro w9_ hS9; clear hS9; go_simp; try with_reducible rfl)
            (try simp only [List.getElem_toArray, List.getElem_cons_zero, List.getElem_cons_succ, Act.put, List.setIfInBounds_toArray, List.set_cons_zero, List.set_cons_succ])
            refine wpAnyH_take (i := 6) (v := ?_) rfl (by kernel_rfl) (by kernel_rfl) (by kernel_rfl) (fun _ _ _ h => h) (Or.inl ⟨by rfl, ?hy⟩) hH ?_
            case hy => (intro w9_ hS9; clear hS9; go_simp; try with_reducible rfl)
            (try simp only [List.getElem_toArray, List.getElem_cons_zero, List.getElem_cons_succ, Act.put, List.setIfInBounds_toArray, List.set_cons_zero, List.set_cons_succ])
            refine wpAnyH_ready (rs := [5]) (by kernel_rfl) (by simp) ?_
            refine AllReadyH.cons rfl (fun K hK => ?_) (AllReadyH.nil)
            go_simp
            refine (c_DTime (HV9.out.next hH) (HA9.out.next hH)).mono ?_
            rintro e w11 ⟨rfl, hbw11⟩
            replace hH := hH.next hbw11
            clear hbw11
            refine hK.out _ _ hH (fun _ => ?_)
            clear hK
            (try simp only [List.getElem_toArray, List.getElem_cons_zero, List.getElem_cons_succ, Act.put, List.setIfInBounds_toArray, List.set_cons_zero, List.set_cons_succ])
            refine wpAnyH_take (i := 7) (v := ?_) rfl (by kernel_rfl) (by kernel_rfl) (by kernel_rfl) (fun _ _ _ h => h) (Or.inl ⟨by rfl, ?hy⟩) hH ?_
            case hy => (intro w9_ hS9; clear hS9; go_simp; try with_reducible rfl)
            (try simp only [List.getElem_toArray, List.getElem_cons_zero, List.getElem_cons_succ, Act.put, List.setIfInBounds_toArray, List.set_cons_zero, List.set_cons_succ])
            refine wpAnyH_take (i := 8) (v := ?_) rfl (by kernel_rfl) (by kernel_rfl) (by kernel_rfl) (fun _ _ _ h => h) (Or.inl ⟨by rfl, ?hy⟩) hH ?_
            case hy => (intro w9_ hS9; clear hS9; go_simp; try with_reducible rfl)
            (try simp only [List.getElem_toArray, List.getElem_cons_zero, List.getElem_cons_succ, Act.put, List.setIfInBounds_toArray, List.set_cons_zero, List.set_cons_succ])
            refine wpAnyH_take (i := 9) (v := ?_) rfl (by kernel_rfl) (by kernel_rfl) (by kernel_rfl) (fun _ _ _ h => h) (Or.inl ⟨by rfl, ?hy⟩) hH ?_
            case hy => (intro w9_ hS9; clear hS9; go_simp; try with_reducible rfl)
            (try simp only [List.getElem_toArray, List.getElem_cons_zero, List.getElem_cons_succ, Act.put, List.setIfInBounds_toArray, List.set_cons_zero, List.set_cons_succ])
            refine wpAnyH_take (i := 10) (v := ?_) rfl (by kernel_rfl) (by kernel_rfl) (by kernel_rfl) (fun _ _ _ h => h) (Or.inl ⟨by rfl, ?hy⟩) hH ?_
            case hy => (intro w9_ hS9; clear hS9; go_simp; try with_reducible rfl)
            (try simp only [List.getElem_toArray, List.getElem_cons_zero, List.getElem_cons_succ, Act.put, List.setIfInBounds_toArray, List.set_cons_zero, List.set_cons_succ])
            refine wpAnyH_take (i := 12) (v := ?_) rfl (by kernel_rfl) (by kernel_rfl) (by kernel_rfl) (fun _ _ _ h => h) (Or.inl ⟨by rfl, ?hy⟩) hH ?_
            case hy => (intro w9_ hS9; clear hS9; go_simp; try with_reducible rfl)
            (try simp only [List.getElem_toArray, List.getElem_cons_zero, List.getElem_cons_succ, Act.put, List.setIfInBounds_toArray, List.set_cons_zero, List.set_cons_succ])
            refine wpAnyH_take (i := 13) (v := ?_) rfl (by kernel_rfl) (by kernel_rfl) (by kernel_rfl) (fun _ _ _ h => h) (Or.inl ⟨by rfl, ?hy⟩) hH ?_
            case hy => (intro w9_ hS9; clear hS9; go_simp; try with_reducible rfl)
            (try simp only [List.getElem_toArray, List.getElem_cons_zero, List.getElem_cons_succ, Act.put, List.setIfInBounds_toArray, List.set_cons_zero, List.set_cons_succ])
            refine wpAnyH_take (i := 14) (v := _) rfl (by kernel_rfl) (by kernel_rfl) (by kernel_rfl) (fun _ _ _ h => h) (Or.inl ⟨by rfl, yields_load 30 (x := .tmp 65) rfl rfl (fun W hW => load_mach (HXR.out.next hW))⟩) hH ?_
            (try simp only [List.getElem_toArray, List.getElem_cons_zero, List.getElem_cons_succ, Act.put, List.setIfInBounds_toArray, List.set_cons_zero, List.set_cons_succ])
            refine wpAnyH_ready (rs := [11]) (by kernel_rfl) (by simp) ?_
            refine AllReadyH.cons rfl (fun K hK => ?_) (AllReadyH.nil)
            go_simp
            refine (c_DMachine (HV9.out.next hH) HVE.out (j := j1) (by have := HB1.out; omega) (HA9.out.next hH)).mono ?_
            rintro e w12 ⟨vm12, vs12, vc12, vi12, vo12, sv12, rfl, hO12, hb12⟩
            have HO12 := Lib.hid hO12
            replace hH := hH.next hb12
            clear hO12 hb12
            refine hK.out _ _ hH (fun _ => ?_)
            clear hK
            (try simp only [List.getElem_toArray, List.getElem_cons_zero, List.getElem_cons_succ, Act.put, List.setIfInBounds_toArray, List.set_cons_zero, List.set_cons_succ])
            refine wpAnyH_ready (rs := [15]) (by kernel_rfl) (by simp) ?_
            refine AllReadyH.cons rfl (fun K hK => ?_) (AllReadyH.nil)
            go_simp
            refine (c_same33 HO12.out.mls (HXR.out.next hH).mls (HVE.out.bd j1 (by have := HB1.out; omega))).mono ?_
            rintro e w13 ⟨rfl, hbw13⟩
            replace hH := hH.next hbw13
            clear hbw13
            refine hK.out _ _ hH (fun _ => ?_)
            clear hK
            (try simp only [List.getElem_toArray, List.getElem_cons_zero, List.getElem_cons_succ, Act.put, List.setIfInBounds_toArray, List.set_cons_zero, List.set_cons_succ])
            refine wpAnyH_take (i := 16) (v := ?_) rfl (by kernel_rfl) (by kernel_rfl) (by kernel_rfl) (fun _ _ _ h => h) (Or.inl ⟨by rfl, ?hy⟩) hH ?_
            case hy => (intro w9_ hS9; clear hS9; go_simp; try with_reducible rfl)
            (try simp only [List.getElem_toArray, List.getElem_cons_zero, List.getElem_cons_succ, Act.put, List.setIfInBounds_toArray, List.set_cons_zero, List.set_cons_succ])
            refine wpAnyH_take (i := 17) (v := ?_) rfl (by kernel_rfl) (by kernel_rfl) (by kernel_rfl) (fun _ _ _ h => h) (Or.inl ⟨by rfl, ?hy⟩) hH ?_
            case hy => (intro w9_ hS9; clear hS9; go_simp; try with_reducible rfl)
            (try simp only [List.getElem_toArray, List.getElem_cons_zero, List.getElem_cons_succ, Act.put, List.setIfInBounds_toArray, List.set_cons_zero, List.set_cons_succ])
            refine wpAnyH_done (by kernel_rfl) ?_ _
            go_wp2_with fail
            exact ⟨⟨i + 1, (T - 1), j1, by omega, by go_num, rfl, HE1.out, by have := HB1.out; omega, HA9.out.next hH, HX9.out.next hH, HF9.out.next hH, HV9.out.next hH, HR9.out.keep (fun b o hd => hH.cell (p := ⟨b, o, none⟩) (by have := hd.2.1; have := HF9.out.size; show b < w9.heap.size; omega))⟩, by simp [intOf]; omega⟩
      · obtain rfl : i = l.length := by omega
        go_wp2_with fail
        go_ret
        exact ⟨rfl, BEL.out _ HF5.out⟩
end Go.Proofs.YtfpcblgkcbfdoaaDoor
