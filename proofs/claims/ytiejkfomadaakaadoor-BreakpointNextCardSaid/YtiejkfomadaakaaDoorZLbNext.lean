/- The walk of the law BreakpointNext. -/
import Derived.Test.YtiejkfomadaakaaDoorBpZ
set_option linter.unusedVariables false
set_option linter.unusedSimpArgs false
set_option maxRecDepth 100000
namespace Go.Proofs.YtiejkfomadaakaaDoor
open Go.RowKit Bk
set_option maxHeartbeats 16000000 in
theorem c_lawBreakpointNext (A : Option Addr) (n cap : Nat) (im : Img) (M : Mach) (vm vs vc vi vo : Value) (sv : List Value) (w : World) (hC : Rd w (· < w.heap.size) 5 A n (codeCells im.code)) (hw : CodeWf im.code) (hL : MLs w (· < w.heap.size) M vm vs vc vi vo sv) (hwf : MWf M) (hl : ∀ l ∈ M.s, l.length ≤ 17592186043904) (hcl : M.calls.length ≤ 17592186043904) (hTab : TableAt w) (tk : Nat) (htk : tk ≤ 255) (ta tb : Int) (hta : I64 ta) (y : Nat) (hy : y ≤ 255) (most : Int) (hmo : I64 most) :
    Calls Tryd.prog 3 #[.agg #[.slice A n cap, .int .i64 im.mem, .int .i64 im.stacks], .agg (mcells M vm vs vc vi vo).toArray, .agg #[.int .u8 tk, .int .i64 ta, .int .i64 tb], .int .u8 (y : Int), .int .i64 most] w fun e w' => e = .returned (.bool true) ∧ Below w.heap.size w w' := by
  obtain ⟨sm, hsm⟩ : ∃ sm, sm34 im M = sm := ⟨_, rfl⟩
  have HSM := Lib.hid hsm; clear hsm
  obtain ⟨ok, hok⟩ : ∃ ok, ok34 im M = ok := ⟨_, rfl⟩
  have HOK := Lib.hid hok; clear hok
  have hmo9 := hmo
  unfold I64 at hmo
  have hnn : n = im.code.length := by have := hC.1; rw [codeCells_length] at this; omega
  have HC := Lib.hid hC; have HT := Lib.hid hTab; have HL := Lib.hid hL; have HN := Lib.hid hnn; have HWF := Lib.hid hwf; have HLL := Lib.hid hl; have HCL := Lib.hid hcl
  clear hC hTab hL hnn hwf hl hcl
  go_enter Tryd.func3, Tryd.ntmps3
  go_upto_region 1 with fail
  refine wp_nameY ?_
  intro w1 hw1
  have hB_w1 : Below w.heap.size w w1 := by rw [hw1]; exact (by repeat' (first | (with_reducible assumption) | (with_reducible exact Below.refl _ _) | (with_reducible refine Below.alloc ?_ ?_ _) | (with_reducible refine Bk.drewN_ ?_ _) | (with_reducible refine Below.drew ?_) | (with_reducible refine Below.setCell ?_ ?_ _) | go_size))
  have K_1 : Blk w1 w.heap.size 24 #[.slice A n cap, .int .i64 im.mem, .int .i64 im.stacks] := by rw [hw1]; exact (by repeat' (first | with_reducible assumption | (refine Blk.new' ?_ _ _; simp; done) | refine Blk.alloc ?_ _ | refine Blk.drewN ?_ _ | refine Blk.drew ?_))
  have KM : Blk w1 (w.heap.size + 1) 30 (mcells M vm vs vc vi vo).toArray := by rw [hw1]; exact (by repeat' (first | with_reducible assumption | (refine Blk.new' ?_ _ _; simp; done) | refine Blk.alloc ?_ _ | refine Blk.drewN ?_ _ | refine Blk.drew ?_))
  have HM := Lib.hid ((HL.out.next hB_w1).at_ KM)
  have KT : Blk w1 (w.heap.size + 2) 32 #[.int .u8 tk, .int .i64 ta, .int .i64 tb] := by rw [hw1]; exact (by repeat' (first | with_reducible assumption | (refine Blk.new' ?_ _ _; simp; done) | refine Blk.alloc ?_ _ | refine Blk.drewN ?_ _ | refine Blk.drew ?_))
  have HKT := Lib.hid KT
  clear KT
  have zz : w1.heap.size = w.heap.size + 3 := by rw [hw1]; simp
  clear hw1 KM
  obtain ⟨z_1, T_1, F_1⟩ := K_1.open_; have H_1 := Lib.hid K_1; clear K_1
  go_wp2_with fail
  refine (c_awake34 _ (HT.out.next hB_w1)).mono ?_
  rintro e w2 ⟨rfl, hb2⟩
  have hB_w2 := hB_w1.next hb2
  replace HM := Lib.hid (HM.out.next hb2)
  replace HKT := Lib.hid (HKT.out.next hb2)
  have K_1 : Blk w2 (w.heap.size) 24 #[.slice A n cap, .int .i64 im.mem, .int .i64 im.stacks] := Blk.next (by repeat' (first | with_reducible exact H_1.out | with_reducible exact K0_1 | (refine Blk.new' ?_ _ _; simp; done) | with_reducible refine Blk.alloc ?_ _ | with_reducible refine Blk.drewN ?_ _ | with_reducible refine Blk.drew ?_)) hb2; (try clear H_1); (try clear T_1); (try clear z_1); (try clear F_1); obtain ⟨z_1, T_1, F_1⟩ := K_1.open_; have H_1 := Lib.hid K_1; clear K_1
  have z2 := hb2.size
  clear hb2
  go_wp2_with (refine wpList_loadG 30 rfl rfl rfl (load_mach HM.out) ?_; simp only [Act.put, List.setIfInBounds_toArray, List.set_cons_succ, List.set_cons_zero])
  cases sm with
  | false =>
    refine (c_small0 (HL.out.next hB_w2) A n cap im HN.out HSM.out).mono ?_
    rintro e w3 ⟨rfl, hb3⟩
    have hB_w3 := hB_w2.next hb3
    clear hb3
    go_wp2_with fail
    go_ret
    exact ⟨rfl, hB_w3⟩
  | true =>
    refine (c_small1 (HL.out.next hB_w2) A n cap im HN.out HSM.out).mono ?_
    rintro e w3 ⟨rfl, hb3⟩
    have hB_w3 := hB_w2.next hb3
    replace HM := Lib.hid (HM.out.next hb3)
    replace HKT := Lib.hid (HKT.out.next hb3)
    have K_1 : Blk w3 (w.heap.size) 24 #[.slice A n cap, .int .i64 im.mem, .int .i64 im.stacks] := Blk.next (by repeat' (first | with_reducible exact H_1.out | with_reducible exact K0_1 | (refine Blk.new' ?_ _ _; simp; done) | with_reducible refine Blk.alloc ?_ _ | with_reducible refine Blk.drewN ?_ _ | with_reducible refine Blk.drew ?_)) hb3; (try clear H_1); (try clear T_1); (try clear z_1); (try clear F_1); obtain ⟨z_1, T_1, F_1⟩ := K_1.open_; have H_1 := Lib.hid K_1; clear K_1
    have z3 := hb3.size
    have hms : M.s.length ≤ 1000000 := by have := of_decide_eq_true HSM.out; omega
    clear hb3
    by_cases hbig : 120 < most
    · go_wp2_with fail
      go_ret
      exact ⟨rfl, hB_w3⟩
    have hbig' : most ≤ 120 := by omega
    obtain ⟨z_t, T_t, F_t⟩ := HKT.out.open_
    go_wp2_with (refine wpList_loadG 30 rfl rfl rfl (load_mach HM.out) ?_; simp only [Act.put, List.setIfInBounds_toArray, List.set_cons_succ, List.set_cons_zero])
    cases ok with
    | false =>
      refine (c_lineNone A n cap im M vm vs vc vi vo sv w3 (Rd.upL HC.out hB_w3) hw (MLs.up HL.out hB_w3) HWF.out HLL.out HCL.out (HT.out.next hB_w3) tk htk ta tb hta hms HOK.out).mono ?_
      rintro e w4 ⟨rfl, hb4⟩
      have hB_w4 := hB_w3.next hb4
      clear hb4
      go_wp2_with fail
      go_ret
      exact ⟨rfl, hB_w4⟩
    | true =>
      obtain ⟨L, hLin⟩ := lin_any im.code M 120
      obtain ⟨m, hm⟩ : ∃ m, m = L + 1 := ⟨_, rfl⟩
      obtain ⟨hck, hff⟩ : im.check.2 = 0 ∧ fitsB im M = true := by have h := HOK.out; unfold ok34 at h; simpa using h
      have HVE : Hid (VEnv im M 400) := Lib.hid (VEnv.of hck hw (Fit.of HWF.out hff) (K := 17592186043904) HLL.out (by omega))
      have hL120 : L ≤ 120 := hLin.le
      have hm121 : m ≤ 121 := by omega
      have HLin := Lib.hid hLin; have HMm := Lib.hid hm
      clear hck hff hLin
      refine (c_lineOk A n cap im M vm vs vc vi vo sv w3 (Rd.upL HC.out hB_w3) hw (MLs.up HL.out hB_w3) HWF.out HLL.out HCL.out (HT.out.next hB_w3) tk htk ta tb hta hms HOK.out HLin.out).mono ?_
      rintro e w4 ⟨g, cp, rfl, hown, hb4⟩
      rw [← hm] at hown ⊢
      obtain ⟨g2, cp2, hgeq, hg3, hg4, _, _, hgc⟩ := own_some hown (by omega)
      have hgg : g = g2 := by
        injection hgeq with h1 _ _
        injection h1 with h1
        injection h1 with h1 _ _
      subst hgg
      clear hgeq
      obtain ⟨l, hll⟩ : ∃ l, tl (Tst.holds ⟨tk, ta, tb⟩) im.code M L = l := ⟨_, rfl⟩
      have HLL2 := Lib.hid hll
      have hlen : m = l.length := by rw [← hll, tl_len]; exact hm
      have HLEN := Lib.hid hlen
      rw [hll] at hgc
      have HGC : Hid (∀ k, k < l.length → w4.cell? ⟨g, k, none⟩ = some (.bool (l.getD k false))) := Lib.hid fun k hk => hgc k _ (boolCells_get l k hk)
      have hB_w4 := hB_w3.next hb4
      replace HM := Lib.hid (HM.out.next hb4)
      replace HKT := Lib.hid (HKT.out.next hb4)
      have K_1 : Blk w4 (w.heap.size) 24 #[.slice A n cap, .int .i64 im.mem, .int .i64 im.stacks] := Blk.next (by repeat' (first | with_reducible exact H_1.out | with_reducible exact K0_1 | (refine Blk.new' ?_ _ _; simp; done) | with_reducible refine Blk.alloc ?_ _ | with_reducible refine Blk.drewN ?_ _ | with_reducible refine Blk.drew ?_)) hb4; (try clear H_1); (try clear T_1); (try clear z_1); (try clear F_1); obtain ⟨z_1, T_1, F_1⟩ := K_1.open_; have H_1 := Lib.hid K_1; clear K_1
      have z4 := hb4.size
      clear hb4 hown hgc hm hll hlen T_t z_t F_t
      go_wp2_with (refine wpList_loadG 30 rfl rfl rfl (load_mach HM.out) ?_; simp only [Act.put, List.setIfInBounds_toArray, List.set_cons_succ, List.set_cons_zero])
      obtain ⟨now, hnow⟩ : ∃ now, now = y % m := ⟨_, rfl⟩
      refine (c_at A n cap im M vm vs vc vi vo sv w4 (Rd.upL HC.out hB_w4) hw (MLs.up HL.out hB_w4) HWF.out HLL.out HCL.out (HT.out.next hB_w4) hms HOK.out HMm.out HLin.out g cp y now hy hnow).mono ?_
      rintro e w5 ⟨P, A', n', cap', rfl, hV, hA, hO, hb5⟩
      have hnL : now ≤ L := by have := Nat.mod_lt y (show 0 < m by have := HMm.out; omega); have := HMm.out; omega
      have hB_w5 := hB_w4.next hb5
      replace HM := Lib.hid (HM.out.next hb5)
      replace HKT := Lib.hid (HKT.out.next hb5)
      have HGC5 : Hid (∀ k, k < l.length → w5.cell? ⟨g, k, none⟩ = some (.bool (l.getD k false))) := Lib.hid fun k hk => (hb5.cell (p := ⟨g, k, none⟩) hg4).trans (HGC.out k hk)
      have z5 := hb5.size
      have HV := Lib.hid hV; have HA := Lib.hid hA; have HO := Lib.hid hO
      have BEL : Hid (∀ wz, Fr P.O w5 wz → Below w.heap.size w wz) := Lib.hid fun wz hf => hB_w5.trans (hf.below (B := w.heap.size) (by have := hB_w5.size; omega) (fun k hk => by have := (hO k hk).1; have := hB_w4.size; omega))
      clear hV hA hO hb5 hnow T_1 z_1 F_1 H_1
      obtain ⟨mx, hmx⟩ : ∃ mx : Nat, max most 0 = (mx : Int) := ⟨most.toNat, by omega⟩
      have hmxN : most.toNat = mx := by omega
      by_cases hE : 121 ≤ now + mx ∧ m = 121
      · have g1 : (m : Int) ≤ (now : Int) + (mx : Int) := by omega
        have g2 : ((m : Int) == 121) = true := by simp; omega
        go_wp2_with fail
        go_ret
        exact ⟨rfl, hB_w5⟩
      have hcond : L = 120 → now + mx ≤ 120 := fun e => by have := HMm.out; omega
      have HCOND := Lib.hid hcond
      have HE' : Hid (¬ ((m : Int) ≤ (now : Int) + (mx : Int) ∧ (m : Int) = 121)) := Lib.hid (by omega)
      have hs : findF im.code M (Tst.holds ⟨tk, ta, tb⟩) most.toNat now = nextR l most.toNat (now + 1) := by rw [← HLL2.out, hmxN]; exact findF_ref HLin.out mx now hnL hcond
      obtain ⟨R, hR⟩ : ∃ R, findF im.code M (Tst.holds ⟨tk, ta, tb⟩) most.toNat now = R := ⟨_, rfl⟩
      rw [hR] at hs
      have HR := Lib.hid hR; have HRR := Lib.hid hs.symm
      clear hR hs hcond
      by_cases hG : (m : Int) ≤ (now : Int) + (mx : Int)
      · have g2 : ((m : Int) == 121) = false := by have := HE'.out; simp; omega
        go_wp2_with fail
        refine (c_refNext (g := g) (cp := cp) (m := m) (l := l) HLEN.out HGC5.out (by omega) (by omega) now (by omega) most hmo9).mono ?_
        rintro e w6 ⟨rfl, hb6⟩
        rw [HRR.out]
        have HV6 := Lib.hid (HV.out.next hb6); have HA6 := Lib.hid (HA.out.next hb6); have HF6 := Lib.hid ((Fr.refl P.O w5).next hb6)
        replace HKT := Lib.hid (HKT.out.next hb6)
        have z6 := hb6.size
        clear hb6
        obtain ⟨z_t, T_t, F_t⟩ := HKT.out.open_
        go_wp2_with fail
        refine (c_predicate w6 tk htk ta tb hta).mono ?_
        rintro e w7 ⟨pg, pf, pl, C, rfl, heg, hpm, hC, hb7⟩
        have HV7 := Lib.hid (HV6.out.next hb7); have HA7 := Lib.hid (HA6.out.next hb7); have HF7 := Lib.hid (HF6.out.next hb7)
        replace HKT := Lib.hid (HKT.out.next hb7)
        have z7 := hb7.size
        have hs := c_Next HV7.out HVE.out (j := now) (by omega) (by omega) heg hpm (fun b hb => ⟨(hC b hb).2, fun h => by have := (HO.out _ h).2; have := (hC b hb).1; omega⟩) most hmo9 (by omega) (by omega) HA7.out
        rw [HR.out] at hs
        have HS := Lib.hid hs
        clear hs heg hpm hC hb7 T_t z_t F_t
        go_wp2_with fail
        refine HS.out.mono ?_
        rintro e w8 ⟨rfl, ha8, hf8⟩
        have HV8 := Lib.hid (HV7.out.fr hf8); have HA8 := Lib.hid ha8; have HF8 := Lib.hid (HF7.out.trans hf8)
        have HKT8 := Lib.hid (hf8.blk HKT.out (fun h => by have := (HO.out _ h).1; omega))
        have z8 := hf8.size
        clear ha8 hf8 HS
        cases R with
        | none =>
          have HA8 : Hid (DAt w8 P im.code M now) := HA8
          have o1 : optZ none = -1 := rfl
          rw [o1]
          go_wp2_with fail
          refine (c_DTime HV8.out HA8.out).mono ?_
          rintro e w9 ⟨rfl, hb9⟩
          have HF9 := Lib.hid (HF8.out.next hb9)
          clear hb9
          go_wp2_with fail
          go_ret
          exact ⟨rfl, BEL.out _ HF9.out⟩
        | some t =>
          have HA8 : Hid (DAt w8 P im.code M t) := HA8
          have o1 : optZ (some t) = (t : Int) := rfl
          rw [o1]
          have t0 : ¬ (t : Int) < 0 := by omega
          have ht : t ≤ now + 120 ∧ (Tst.holds ⟨tk, ta, tb⟩) (tr im.code M t) = true := by
            obtain ⟨h1, h2, h3, _⟩ := findF_some most.toNat now t HR.out
            exact ⟨by omega, h3⟩
          have htb := ht.1
          have HPT := Lib.hid ht.2
          have q1 : ((t : Int) == (t : Int)) = true := by simp
          clear ht
          go_upto_region 17 with fail
          refine wp_region_held_drew (S := fun W => Below w8.heap.size w8 W) (by kernel_rfl) ((Below.refl _ _).drew) (fun hH => ?_)
          refine wpAnyH_take (i := 0) (v := ?_) rfl (by kernel_rfl) (by kernel_rfl) (by kernel_rfl) (fun _ _ _ h => h) (Or.inl ⟨by rfl, ?hy⟩) hH ?_
          case hy => (intro w9_ hS9; clear hS9; go_simp; try with_reducible rfl)
          (try simp only [List.getElem_toArray, List.getElem_cons_zero, List.getElem_cons_succ, Act.put, List.setIfInBounds_toArray, List.set_cons_zero, List.set_cons_succ])
          refine wpAnyH_take (i := 1) (v := ?_) rfl (by kernel_rfl) (by kernel_rfl) (by kernel_rfl) (fun _ _ _ h => h) (Or.inl ⟨by rfl, ?hy⟩) hH ?_
          case hy => (intro w9_ hS9; clear hS9; go_simp; try with_reducible rfl)
          (try simp only [List.getElem_toArray, List.getElem_cons_zero, List.getElem_cons_succ, Act.put, List.setIfInBounds_toArray, List.set_cons_zero, List.set_cons_succ])
          refine wpAnyH_take (i := 2) (v := ?_) rfl (by kernel_rfl) (by kernel_rfl) (by kernel_rfl) (fun _ _ _ h => h) (Or.inl ⟨by rfl, ?hy⟩) hH ?_
          case hy => (intro w9_ hS9; clear hS9; go_simp; try with_reducible rfl)
          (try simp only [List.getElem_toArray, List.getElem_cons_zero, List.getElem_cons_succ, Act.put, List.setIfInBounds_toArray, List.set_cons_zero, List.set_cons_succ])
          refine wpAnyH_take (i := 4) (v := ?_) rfl (by kernel_rfl) (by kernel_rfl) (by kernel_rfl) (fun _ _ _ h => h) (Or.inl ⟨by rfl, ?hy⟩) hH ?_
          case hy => (intro w9_ hS9; clear hS9; go_simp; try with_reducible rfl)
          (try simp only [List.getElem_toArray, List.getElem_cons_zero, List.getElem_cons_succ, Act.put, List.setIfInBounds_toArray, List.set_cons_zero, List.set_cons_succ])
          refine wpAnyH_ready (rs := [3]) (by kernel_rfl) (by simp) ?_
          refine AllReadyH.cons rfl (fun K hK => ?_) (AllReadyH.nil)
          go_simp
          refine (c_DTime (HV8.out.next hH) (HA8.out.next hH)).mono ?_
          rintro e w9 ⟨rfl, hb9⟩
          replace hH := hH.next hb9
          clear hb9
          refine hK.out _ _ hH (fun _ => ?_)
          clear hK
          (try simp only [List.getElem_toArray, List.getElem_cons_zero, List.getElem_cons_succ, Act.put, List.setIfInBounds_toArray, List.set_cons_zero, List.set_cons_succ])
          refine wpAnyH_take (i := 5) (v := ?_) rfl (by kernel_rfl) (by kernel_rfl) (by kernel_rfl) (fun _ _ _ h => h) (Or.inl ⟨by rfl, ?hy⟩) hH ?_
          case hy => (intro w9_ hS9; clear hS9; go_simp; try with_reducible rfl)
          (try simp only [List.getElem_toArray, List.getElem_cons_zero, List.getElem_cons_succ, Act.put, List.setIfInBounds_toArray, List.set_cons_zero, List.set_cons_succ])
          refine wpAnyH_take (i := 6) (v := ?_) rfl (by kernel_rfl) (by kernel_rfl) (by kernel_rfl) (fun _ _ _ h => h) (Or.inl ⟨by rfl, ?hy⟩) hH ?_
          case hy => (intro w9_ hS9; clear hS9; go_simp; try with_reducible rfl)
          (try simp only [List.getElem_toArray, List.getElem_cons_zero, List.getElem_cons_succ, Act.put, List.setIfInBounds_toArray, List.set_cons_zero, List.set_cons_succ])
          refine wpAnyH_take (i := 7) (v := ?_) rfl (by kernel_rfl) (by kernel_rfl) (by kernel_rfl) (fun _ _ _ h => h) (Or.inl ⟨by rfl, ?hy⟩) hH ?_
          case hy => (intro w9_ hS9; clear hS9; go_simp; try with_reducible rfl)
          (try simp only [List.getElem_toArray, List.getElem_cons_zero, List.getElem_cons_succ, Act.put, List.setIfInBounds_toArray, List.set_cons_zero, List.set_cons_succ])
          refine wpAnyH_take (i := 8) (v := ?_) rfl (by kernel_rfl) (by kernel_rfl) (by kernel_rfl) (fun _ _ _ h => h) (Or.inl ⟨by rfl, ?hy⟩) hH ?_
          case hy => (intro w9_ hS9; have T9 := (HKT8.out.next hS9).cell; clear hS9; go_simp; try with_reducible rfl)
          (try simp only [List.getElem_toArray, List.getElem_cons_zero, List.getElem_cons_succ, Act.put, List.setIfInBounds_toArray, List.set_cons_zero, List.set_cons_succ])
          refine wpAnyH_take (i := 9) (v := ?_) rfl (by kernel_rfl) (by kernel_rfl) (by kernel_rfl) (fun _ _ _ h => h) (Or.inl ⟨by rfl, ?hy⟩) hH ?_
          case hy => (intro w9_ hS9; clear hS9; go_simp; try with_reducible rfl)
          (try simp only [List.getElem_toArray, List.getElem_cons_zero, List.getElem_cons_succ, Act.put, List.setIfInBounds_toArray, List.set_cons_zero, List.set_cons_succ])
          refine wpAnyH_ready (rs := [10]) (by kernel_rfl) (by simp) ?_
          refine AllReadyH.cons rfl (fun K hK => ?_) (AllReadyH.nil)
          go_simp
          refine (c_DMachine (HV8.out.next hH) HVE.out (j := t) (by omega) (HA8.out.next hH)).mono ?_
          rintro e w10 ⟨vmn, vsn, vcn, vin, von, svn, rfl, hO10, hb10⟩
          have HO10 := Lib.hid hO10
          replace hH := hH.next hb10
          clear hO10 hb10
          refine hK.out _ _ hH (fun _ => ?_)
          clear hK
          (try simp only [List.getElem_toArray, List.getElem_cons_zero, List.getElem_cons_succ, Act.put, List.setIfInBounds_toArray, List.set_cons_zero, List.set_cons_succ])
          refine wpAnyH_ready (rs := [11]) (by kernel_rfl) (by simp) ?_
          refine AllReadyH.cons rfl (fun K hK => ?_) (AllReadyH.nil)
          go_simp
          have hs := c_own HO10.out.mls (by have := (HVE.out.bd t (by omega)).ml; omega) tk htk ta tb hta
          rw [HPT.out] at hs
          have HSO := Lib.hid hs
          clear hs
          refine HSO.out.mono ?_
          rintro e w11 ⟨rfl, hb11⟩
          replace hH := hH.next hb11
          clear hb11 HSO
          refine hK.out _ _ hH (fun _ => ?_)
          clear hK
          (try simp only [List.getElem_toArray, List.getElem_cons_zero, List.getElem_cons_succ, Act.put, List.setIfInBounds_toArray, List.set_cons_zero, List.set_cons_succ])
          refine wpAnyH_take (i := 12) (v := ?_) rfl (by kernel_rfl) (by kernel_rfl) (by kernel_rfl) (fun _ _ _ h => h) (Or.inl ⟨by rfl, ?hy⟩) hH ?_
          case hy => (intro w9_ hS9; clear hS9; go_simp; try with_reducible rfl)
          (try simp only [List.getElem_toArray, List.getElem_cons_zero, List.getElem_cons_succ, Act.put, List.setIfInBounds_toArray, List.set_cons_zero, List.set_cons_succ])
          refine wpAnyH_take (i := 13) (v := ?_) rfl (by kernel_rfl) (by kernel_rfl) (by kernel_rfl) (fun _ _ _ h => h) (Or.inl ⟨by rfl, ?hy⟩) hH ?_
          case hy => (intro w9_ hS9; clear hS9; go_simp; try with_reducible rfl)
          (try simp only [List.getElem_toArray, List.getElem_cons_zero, List.getElem_cons_succ, Act.put, List.setIfInBounds_toArray, List.set_cons_zero, List.set_cons_succ])
          refine wpAnyH_done (by kernel_rfl) ?_ _
          go_wp2_with fail
          go_ret
          exact ⟨rfl, BEL.out _ (HF8.out.next hH)⟩
      · go_wp2_with fail
        refine (c_refNext (g := g) (cp := cp) (m := m) (l := l) HLEN.out HGC5.out (by omega) (by omega) now (by omega) most hmo9).mono ?_
        rintro e w6 ⟨rfl, hb6⟩
        rw [HRR.out]
        have HV6 := Lib.hid (HV.out.next hb6); have HA6 := Lib.hid (HA.out.next hb6); have HF6 := Lib.hid ((Fr.refl P.O w5).next hb6)
        replace HKT := Lib.hid (HKT.out.next hb6)
        have z6 := hb6.size
        clear hb6
        obtain ⟨z_t, T_t, F_t⟩ := HKT.out.open_
        go_wp2_with fail
        refine (c_predicate w6 tk htk ta tb hta).mono ?_
        rintro e w7 ⟨pg, pf, pl, C, rfl, heg, hpm, hC, hb7⟩
        have HV7 := Lib.hid (HV6.out.next hb7); have HA7 := Lib.hid (HA6.out.next hb7); have HF7 := Lib.hid (HF6.out.next hb7)
        replace HKT := Lib.hid (HKT.out.next hb7)
        have z7 := hb7.size
        have hs := c_Next HV7.out HVE.out (j := now) (by omega) (by omega) heg hpm (fun b hb => ⟨(hC b hb).2, fun h => by have := (HO.out _ h).2; have := (hC b hb).1; omega⟩) most hmo9 (by omega) (by omega) HA7.out
        rw [HR.out] at hs
        have HS := Lib.hid hs
        clear hs heg hpm hC hb7 T_t z_t F_t
        go_wp2_with fail
        refine HS.out.mono ?_
        rintro e w8 ⟨rfl, ha8, hf8⟩
        have HV8 := Lib.hid (HV7.out.fr hf8); have HA8 := Lib.hid ha8; have HF8 := Lib.hid (HF7.out.trans hf8)
        have HKT8 := Lib.hid (hf8.blk HKT.out (fun h => by have := (HO.out _ h).1; omega))
        have z8 := hf8.size
        clear ha8 hf8 HS
        cases R with
        | none =>
          have HA8 : Hid (DAt w8 P im.code M now) := HA8
          have o1 : optZ none = -1 := rfl
          rw [o1]
          go_wp2_with fail
          refine (c_DTime HV8.out HA8.out).mono ?_
          rintro e w9 ⟨rfl, hb9⟩
          have HF9 := Lib.hid (HF8.out.next hb9)
          clear hb9
          go_wp2_with fail
          go_ret
          exact ⟨rfl, BEL.out _ HF9.out⟩
        | some t =>
          have HA8 : Hid (DAt w8 P im.code M t) := HA8
          have o1 : optZ (some t) = (t : Int) := rfl
          rw [o1]
          have t0 : ¬ (t : Int) < 0 := by omega
          have ht : t ≤ now + 120 ∧ (Tst.holds ⟨tk, ta, tb⟩) (tr im.code M t) = true := by
            obtain ⟨h1, h2, h3, _⟩ := findF_some most.toNat now t HR.out
            exact ⟨by omega, h3⟩
          have htb := ht.1
          have HPT := Lib.hid ht.2
          have q1 : ((t : Int) == (t : Int)) = true := by simp
          clear ht
          go_upto_region 17 with fail
          refine wp_region_held_drew (S := fun W => Below w8.heap.size w8 W) (by kernel_rfl) ((Below.refl _ _).drew) (fun hH => ?_)
          refine wpAnyH_take (i := 0) (v := ?_) rfl (by kernel_rfl) (by kernel_rfl) (by kernel_rfl) (fun _ _ _ h => h) (Or.inl ⟨by rfl, ?hy⟩) hH ?_
          case hy => (intro w9_ hS9; clear hS9; go_simp; try with_reducible rfl)
          (try simp only [List.getElem_toArray, List.getElem_cons_zero, List.getElem_cons_succ, Act.put, List.setIfInBounds_toArray, List.set_cons_zero, List.set_cons_succ])
          refine wpAnyH_take (i := 1) (v := ?_) rfl (by kernel_rfl) (by kernel_rfl) (by kernel_rfl) (fun _ _ _ h => h) (Or.inl ⟨by rfl, ?hy⟩) hH ?_
          case hy => (intro w9_ hS9; clear hS9; go_simp; try with_reducible rfl)
          (try simp only [List.getElem_toArray, List.getElem_cons_zero, List.getElem_cons_succ, Act.put, List.setIfInBounds_toArray, List.set_cons_zero, List.set_cons_succ])
          refine wpAnyH_take (i := 2) (v := ?_) rfl (by kernel_rfl) (by kernel_rfl) (by kernel_rfl) (fun _ _ _ h => h) (Or.inl ⟨by rfl, ?hy⟩) hH ?_
          case hy => (intro w9_ hS9; clear hS9; go_simp; try with_reducible rfl)
          (try simp only [List.getElem_toArray, List.getElem_cons_zero, List.getElem_cons_succ, Act.put, List.setIfInBounds_toArray, List.set_cons_zero, List.set_cons_succ])
          refine wpAnyH_take (i := 4) (v := ?_) rfl (by kernel_rfl) (by kernel_rfl) (by kernel_rfl) (fun _ _ _ h => h) (Or.inl ⟨by rfl, ?hy⟩) hH ?_
          case hy => (intro w9_ hS9; clear hS9; go_simp; try with_reducible rfl)
          (try simp only [List.getElem_toArray, List.getElem_cons_zero, List.getElem_cons_succ, Act.put, List.setIfInBounds_toArray, List.set_cons_zero, List.set_cons_succ])
          refine wpAnyH_ready (rs := [3]) (by kernel_rfl) (by simp) ?_
          refine AllReadyH.cons rfl (fun K hK => ?_) (AllReadyH.nil)
          go_simp
          refine (c_DTime (HV8.out.next hH) (HA8.out.next hH)).mono ?_
          rintro e w9 ⟨rfl, hb9⟩
          replace hH := hH.next hb9
          clear hb9
          refine hK.out _ _ hH (fun _ => ?_)
          clear hK
          (try simp only [List.getElem_toArray, List.getElem_cons_zero, List.getElem_cons_succ, Act.put, List.setIfInBounds_toArray, List.set_cons_zero, List.set_cons_succ])
          refine wpAnyH_take (i := 5) (v := ?_) rfl (by kernel_rfl) (by kernel_rfl) (by kernel_rfl) (fun _ _ _ h => h) (Or.inl ⟨by rfl, ?hy⟩) hH ?_
          case hy => (intro w9_ hS9; clear hS9; go_simp; try with_reducible rfl)
          (try simp only [List.getElem_toArray, List.getElem_cons_zero, List.getElem_cons_succ, Act.put, List.setIfInBounds_toArray, List.set_cons_zero, List.set_cons_succ])
          refine wpAnyH_take (i := 6) (v := ?_) rfl (by kernel_rfl) (by kernel_rfl) (by kernel_rfl) (fun _ _ _ h => h) (Or.inl ⟨by rfl, ?hy⟩) hH ?_
          case hy => (intro w9_ hS9; clear hS9; go_simp; try with_reducible rfl)
          (try simp only [List.getElem_toArray, List.getElem_cons_zero, List.getElem_cons_succ, Act.put, List.setIfInBounds_toArray, List.set_cons_zero, List.set_cons_succ])
          refine wpAnyH_take (i := 7) (v := ?_) rfl (by kernel_rfl) (by kernel_rfl) (by kernel_rfl) (fun _ _ _ h => h) (Or.inl ⟨by rfl, ?hy⟩) hH ?_
          case hy => (intro w9_ hS9; clear hS9; go_simp; try with_reducible rfl)
          (try simp only [List.getElem_toArray, List.getElem_cons_zero, List.getElem_cons_succ, Act.put, List.setIfInBounds_toArray, List.set_cons_zero, List.set_cons_succ])
          refine wpAnyH_take (i := 8) (v := ?_) rfl (by kernel_rfl) (by kernel_rfl) (by kernel_rfl) (fun _ _ _ h => h) (Or.inl ⟨by rfl, ?hy⟩) hH ?_
          case hy => (intro w9_ hS9; have T9 := (HKT8.out.next hS9).cell; clear hS9; go_simp; try with_reducible rfl)
          (try simp only [List.getElem_toArray, List.getElem_cons_zero, List.getElem_cons_succ, Act.put, List.setIfInBounds_toArray, List.set_cons_zero, List.set_cons_succ])
          refine wpAnyH_take (i := 9) (v := ?_) rfl (by kernel_rfl) (by kernel_rfl) (by kernel_rfl) (fun _ _ _ h => h) (Or.inl ⟨by rfl, ?hy⟩) hH ?_
          case hy => (intro w9_ hS9; clear hS9; go_simp; try with_reducible rfl)
          (try simp only [List.getElem_toArray, List.getElem_cons_zero, List.getElem_cons_succ, Act.put, List.setIfInBounds_toArray, List.set_cons_zero, List.set_cons_succ])
          refine wpAnyH_ready (rs := [10]) (by kernel_rfl) (by simp) ?_
          refine AllReadyH.cons rfl (fun K hK => ?_) (AllReadyH.nil)
          go_simp
          refine (c_DMachine (HV8.out.next hH) HVE.out (j := t) (by omega) (HA8.out.next hH)).mono ?_
          rintro e w10 ⟨vmn, vsn, vcn, vin, von, svn, rfl, hO10, hb10⟩
          have HO10 := Lib.hid hO10
          replace hH := hH.next hb10
          clear hO10 hb10
          refine hK.out _ _ hH (fun _ => ?_)
          clear hK
          (try simp only [List.getElem_toArray, List.getElem_cons_zero, List.getElem_cons_succ, Act.put, List.setIfInBounds_toArray, List.set_cons_zero, List.set_cons_succ])
          refine wpAnyH_ready (rs := [11]) (by kernel_rfl) (by simp) ?_
          refine AllReadyH.cons rfl (fun K hK => ?_) (AllReadyH.nil)
          go_simp
          have hs := c_own HO10.out.mls (by have := (HVE.out.bd t (by omega)).ml; omega) tk htk ta tb hta
          rw [HPT.out] at hs
          have HSO := Lib.hid hs
          clear hs
          refine HSO.out.mono ?_
          rintro e w11 ⟨rfl, hb11⟩
          replace hH := hH.next hb11
          clear hb11 HSO
          refine hK.out _ _ hH (fun _ => ?_)
          clear hK
          (try simp only [List.getElem_toArray, List.getElem_cons_zero, List.getElem_cons_succ, Act.put, List.setIfInBounds_toArray, List.set_cons_zero, List.set_cons_succ])
          refine wpAnyH_take (i := 12) (v := ?_) rfl (by kernel_rfl) (by kernel_rfl) (by kernel_rfl) (fun _ _ _ h => h) (Or.inl ⟨by rfl, ?hy⟩) hH ?_
          case hy => (intro w9_ hS9; clear hS9; go_simp; try with_reducible rfl)
          (try simp only [List.getElem_toArray, List.getElem_cons_zero, List.getElem_cons_succ, Act.put, List.setIfInBounds_toArray, List.set_cons_zero, List.set_cons_succ])
          refine wpAnyH_take (i := 13) (v := ?_) rfl (by kernel_rfl) (by kernel_rfl) (by kernel_rfl) (fun _ _ _ h => h) (Or.inl ⟨by rfl, ?hy⟩) hH ?_
          case hy => (intro w9_ hS9; clear hS9; go_simp; try with_reducible rfl)
          (try simp only [List.getElem_toArray, List.getElem_cons_zero, List.getElem_cons_succ, Act.put, List.setIfInBounds_toArray, List.set_cons_zero, List.set_cons_succ])
          refine wpAnyH_done (by kernel_rfl) ?_ _
          go_wp2_with fail
          go_ret
          exact ⟨rfl, BEL.out _ (HF8.out.next hH)⟩
theorem c_lawBreakpointNextI (A : Option Addr) (n cap : Nat) (im : Img) (M : Mach) (vm vs vc vi vo : Value) (sv : List Value) (w : World) (hC : Rd w (· < w.heap.size) 5 A n (codeCells im.code)) (hw : CodeWf im.code) (hL : MLs w (· < w.heap.size) M vm vs vc vi vo sv) (hwf : MWf M) (hl : ∀ l ∈ M.s, l.length ≤ 17592186043904) (hcl : M.calls.length ≤ 17592186043904) (hTab : TableAt w) (ki : Int) (ki0 : 0 ≤ ki) (ki1 : ki ≤ 255) (ta tb : Int) (hta : I64 ta) (yi : Int) (yi0 : 0 ≤ yi) (yi1 : yi ≤ 255) (most : Int) (hmo : I64 most) :
    Calls Tryd.prog 3 #[.agg #[.slice A n cap, .int .i64 im.mem, .int .i64 im.stacks], .agg (mcells M vm vs vc vi vo).toArray, .agg #[.int .u8 ki, .int .i64 ta, .int .i64 tb], .int .u8 yi, .int .i64 most] w fun e w' => e = .returned (.bool true) ∧ Below w.heap.size w w' := by
  obtain ⟨tk, rfl⟩ := Int.eq_ofNat_of_zero_le ki0
  obtain ⟨y, rfl⟩ := Int.eq_ofNat_of_zero_le yi0
  exact c_lawBreakpointNext A n cap im M vm vs vc vi vo sv w hC hw hL hwf hl hcl hTab tk (by omega) ta tb hta y (by omega) most hmo
end Go.Proofs.YtiejkfomadaakaaDoor
