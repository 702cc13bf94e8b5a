/- The walk of the law BreakpointLast. -/
import Derived.Test.YtiejkfomadaakaaDoorBpZ
import Derived.Test.YtiejkfomadaakaaDoorZBpL
set_option linter.unusedVariables false
set_option linter.unusedSimpArgs false
set_option maxRecDepth 100000
namespace Go.Proofs.YtiejkfomadaakaaDoor
open Go.RowKit Bk
set_option maxHeartbeats 16000000 in
theorem c_lawBreakpointLast (A : Option Addr) (n cap : Nat) (im : Img) (M : Mach) (vm vs vc vi vo : Value) (sv : List Value) (w : World) (hC : Rd w (· < w.heap.size) 5 A n (codeCells im.code)) (hw : CodeWf im.code) (hL : MLs w (· < w.heap.size) M vm vs vc vi vo sv) (hwf : MWf M) (hl : ∀ l ∈ M.s, l.length ≤ 17592186043904) (hcl : M.calls.length ≤ 17592186043904) (hTab : TableAt w) (tk : Nat) (htk : tk ≤ 255) (ta tb : Int) (hta : I64 ta) (y : Nat) (hy : y ≤ 255) (most : Int) (hmo : I64 most) :
    Calls Tryd.prog 9 #[.agg #[.slice A n cap, .int .i64 im.mem, .int .i64 im.stacks], .agg (mcells M vm vs vc vi vo).toArray, .agg #[.int .u8 tk, .int .i64 ta, .int .i64 tb], .int .u8 (y : Int), .int .i64 most] w fun e w' => e = .returned (.bool true) ∧ Below w.heap.size w w' := by
  obtain ⟨sm, hsm⟩ : ∃ sm, sm34 im M = sm := ⟨_, rfl⟩
  have HSM := Lib.hid hsm; clear hsm
  obtain ⟨ok, hok⟩ : ∃ ok, ok34 im M = ok := ⟨_, rfl⟩
  have HOK := Lib.hid hok; clear hok
  have hmo9 := hmo
  unfold I64 at hmo
  have hnn : n = im.code.length := by have := hC.1; rw [codeCells_length] at this; omega
  have HC := Lib.hid hC; have HT := Lib.hid hTab; have HL := Lib.hid hL; have HN := Lib.hid hnn; have HWF := Lib.hid hwf; have HLL := Lib.hid hl; have HCL := Lib.hid hcl
  clear hC hTab hL hnn hwf hl hcl
  go_enter Tryd.func9, Tryd.ntmps9
  go_upto_region 1 with fail
  refine wp_nameY ?_
  intro w1 hw1
  have hB_w1 : Below w.heap.size w w1 := by rw [hw1]; exact (by repeat' (first | (with_reducible assumption) | (with_reducible exact Below.refl _ _) | (with_reducible refine Below.alloc ?_ ?_ _) | (with_reducible refine Bk.drewN_ ?_ _) | (with_reducible refine Below.drew ?_) | (with_reducible refine Below.setCell ?_ ?_ _) | go_size))
  have K_1 : Blk w1 w.heap.size 24 #[.slice A n cap, .int .i64 im.mem, .int .i64 im.stacks] := by rw [hw1]; exact (by repeat' (first | with_reducible assumption | (refine Blk.new' ?_ _ _; simp; done) | refine Blk.alloc ?_ _ | refine Blk.drewN ?_ _ | refine Blk.drew ?_))
  have KM : Blk w1 (w.heap.size + 1) 30 (mcells M vm vs vc vi vo).toArray := by rw [hw1]; exact (by repeat' (first | with_reducible assumption | (refine Blk.new' ?_ _ _; simp; done) | refine Blk.alloc ?_ _ | refine Blk.drewN ?_ _ | refine Blk.drew ?_))
  have HM := Lib.hid ((HL.out.next hB_w1).at_ KM)
  have KT : Blk w1 (w.heap.size + 2) 32 #[.int .u8 tk, .int .i64 ta, .int .i64 tb] := by rw [hw1]; exact (by repeat' (first | with_reducible assumption | (refine Blk.new' ?_ _ _; simp; done) | refine Blk.alloc ?_ _ | refine Blk.drewN ?_ _ | refine Blk.drew ?_))
  have HKT := Lib.hid KT
  clear KT
  have zz : w1.heap.size = w.heap.size + 3 := by rw [hw1]; simp
  clear hw1 KM
  obtain ⟨z_1, T_1, F_1⟩ := K_1.open_; have H_1 := Lib.hid K_1; clear K_1
  go_wp2_with fail
  refine (c_awake34 _ (HT.out.next hB_w1)).mono ?_
  rintro e w2 ⟨rfl, hb2⟩
  have hB_w2 := hB_w1.next hb2
  replace HM := Lib.hid (HM.out.next hb2)
  replace HKT := Lib.hid (HKT.out.next hb2)
  have K_1 : Blk w2 (w.heap.size) 24 #[.slice A n cap, .int .i64 im.mem, .int .i64 im.stacks] := Blk.next (by repeat' (first | with_reducible exact H_1.out | with_reducible exact K0_1 | (refine Blk.new' ?_ _ _; simp; done) | with_reducible refine Blk.alloc ?_ _ | with_reducible refine Blk.drewN ?_ _ | with_reducible refine Blk.drew ?_)) hb2; (try clear H_1); (try clear T_1); (try clear z_1); (try clear F_1); obtain ⟨z_1, T_1, F_1⟩ := K_1.open_; have H_1 := Lib.hid K_1; clear K_1
  have z2 := hb2.size
  clear hb2
  go_wp2_with (refine wpList_loadG 30 rfl rfl rfl (load_mach HM.out) ?_; simp only [Act.put, List.setIfInBounds_toArray, List.set_cons_succ, List.set_cons_zero])
  cases sm with
  | false =>
    refine (c_small0 (HL.out.next hB_w2) A n cap im HN.out HSM.out).mono ?_
    rintro e w3 ⟨rfl, hb3⟩
    have hB_w3 := hB_w2.next hb3
    clear hb3
    go_wp2_with fail
    go_ret
    exact ⟨rfl, hB_w3⟩
  | true =>
    refine (c_small1 (HL.out.next hB_w2) A n cap im HN.out HSM.out).mono ?_
    rintro e w3 ⟨rfl, hb3⟩
    have hB_w3 := hB_w2.next hb3
    replace HM := Lib.hid (HM.out.next hb3)
    replace HKT := Lib.hid (HKT.out.next hb3)
    have K_1 : Blk w3 (w.heap.size) 24 #[.slice A n cap, .int .i64 im.mem, .int .i64 im.stacks] := Blk.next (by repeat' (first | with_reducible exact H_1.out | with_reducible exact K0_1 | (refine Blk.new' ?_ _ _; simp; done) | with_reducible refine Blk.alloc ?_ _ | with_reducible refine Blk.drewN ?_ _ | with_reducible refine Blk.drew ?_)) hb3; (try clear H_1); (try clear T_1); (try clear z_1); (try clear F_1); obtain ⟨z_1, T_1, F_1⟩ := K_1.open_; have H_1 := Lib.hid K_1; clear K_1
    have z3 := hb3.size
    have hms : M.s.length ≤ 1000000 := by have := of_decide_eq_true HSM.out; omega
    clear hb3
    by_cases hbig : 120 < most
    · go_wp2_with fail
      go_ret
      exact ⟨rfl, hB_w3⟩
    have hbig' : most ≤ 120 := by omega
    obtain ⟨z_t, T_t, F_t⟩ := HKT.out.open_
    go_wp2_with (refine wpList_loadG 30 rfl rfl rfl (load_mach HM.out) ?_; simp only [Act.put, List.setIfInBounds_toArray, List.set_cons_succ, List.set_cons_zero])
    cases ok with
    | false =>
      refine (c_lineNone A n cap im M vm vs vc vi vo sv w3 (Rd.upL HC.out hB_w3) hw (MLs.up HL.out hB_w3) HWF.out HLL.out HCL.out (HT.out.next hB_w3) tk htk ta tb hta hms HOK.out).mono ?_
      rintro e w4 ⟨rfl, hb4⟩
      have hB_w4 := hB_w3.next hb4
      clear hb4
      go_wp2_with fail
      go_ret
      exact ⟨rfl, hB_w4⟩
    | true =>
      obtain ⟨L, hLin⟩ := lin_any im.code M 120
      obtain ⟨m, hm⟩ : ∃ m, m = L + 1 := ⟨_, rfl⟩
      obtain ⟨hck, hff⟩ : im.check.2 = 0 ∧ fitsB im M = true := by have h := HOK.out; unfold ok34 at h; simpa using h
      have HVE : Hid (VEnv im M 400) := Lib.hid (VEnv.of hck hw (Fit.of HWF.out hff) (K := 17592186043904) HLL.out (by omega))
      have hL120 : L ≤ 120 := hLin.le
      have hm121 : m ≤ 121 := by omega
      have HLin := Lib.hid hLin; have HMm := Lib.hid hm
      clear hck hff hLin
      refine (c_lineOk A n cap im M vm vs vc vi vo sv w3 (Rd.upL HC.out hB_w3) hw (MLs.up HL.out hB_w3) HWF.out HLL.out HCL.out (HT.out.next hB_w3) tk htk ta tb hta hms HOK.out HLin.out).mono ?_
      rintro e w4 ⟨g, cp, rfl, hown, hb4⟩
      rw [← hm] at hown ⊢
      obtain ⟨g2, cp2, hgeq, hg3, hg4, _, _, hgc⟩ := own_some hown (by omega)
      have hgg : g = g2 := by
        injection hgeq with h1 _ _
        injection h1 with h1
        injection h1 with h1 _ _
      subst hgg
      clear hgeq
      obtain ⟨l, hll⟩ : ∃ l, tl (Tst.holds ⟨tk, ta, tb⟩) im.code M L = l := ⟨_, rfl⟩
      have HLL2 := Lib.hid hll
      have hlen : m = l.length := by rw [← hll, tl_len]; exact hm
      have HLEN := Lib.hid hlen
      rw [hll] at hgc
      have HGC : Hid (∀ k, k < l.length → w4.cell? ⟨g, k, none⟩ = some (.bool (l.getD k false))) := Lib.hid fun k hk => hgc k _ (boolCells_get l k hk)
      have hB_w4 := hB_w3.next hb4
      replace HM := Lib.hid (HM.out.next hb4)
      replace HKT := Lib.hid (HKT.out.next hb4)
      have K_1 : Blk w4 (w.heap.size) 24 #[.slice A n cap, .int .i64 im.mem, .int .i64 im.stacks] := Blk.next (by repeat' (first | with_reducible exact H_1.out | with_reducible exact K0_1 | (refine Blk.new' ?_ _ _; simp; done) | with_reducible refine Blk.alloc ?_ _ | with_reducible refine Blk.drewN ?_ _ | with_reducible refine Blk.drew ?_)) hb4; (try clear H_1); (try clear T_1); (try clear z_1); (try clear F_1); obtain ⟨z_1, T_1, F_1⟩ := K_1.open_; have H_1 := Lib.hid K_1; clear K_1
      have z4 := hb4.size
      clear hb4 hown hgc hm hll hlen T_t z_t F_t
      go_wp2_with (refine wpList_loadG 30 rfl rfl rfl (load_mach HM.out) ?_; simp only [Act.put, List.setIfInBounds_toArray, List.set_cons_succ, List.set_cons_zero])
      obtain ⟨now, hnow⟩ : ∃ now, now = y % m := ⟨_, rfl⟩
      refine (c_at A n cap im M vm vs vc vi vo sv w4 (Rd.upL HC.out hB_w4) hw (MLs.up HL.out hB_w4) HWF.out HLL.out HCL.out (HT.out.next hB_w4) hms HOK.out HMm.out HLin.out g cp y now hy hnow).mono ?_
      rintro e w5 ⟨P, A', n', cap', rfl, hV, hA, hO, hb5⟩
      have hnL : now ≤ L := by have := Nat.mod_lt y (show 0 < m by have := HMm.out; omega); have := HMm.out; omega
      have hB_w5 := hB_w4.next hb5
      replace HM := Lib.hid (HM.out.next hb5)
      replace HKT := Lib.hid (HKT.out.next hb5)
      have HGC5 : Hid (∀ k, k < l.length → w5.cell? ⟨g, k, none⟩ = some (.bool (l.getD k false))) := Lib.hid fun k hk => (hb5.cell (p := ⟨g, k, none⟩) hg4).trans (HGC.out k hk)
      have z5 := hb5.size
      have HV := Lib.hid hV; have HA := Lib.hid hA; have HO := Lib.hid hO
      have BEL : Hid (∀ wz, Fr P.O w5 wz → Below w.heap.size w wz) := Lib.hid fun wz hf => hB_w5.trans (hf.below (B := w.heap.size) (by have := hB_w5.size; omega) (fun k hk => by have := (hO k hk).1; have := hB_w4.size; omega))
      clear hV hA hO hb5 hnow T_1 z_1 F_1 H_1
      obtain ⟨mx, hmx⟩ : ∃ mx : Nat, max most 0 = (mx : Int) := ⟨most.toNat, by omega⟩
      have hmxN : most.toNat = mx := by omega
      by_cases hE : 121 ≤ now + mx ∧ m = 121
      · have g1 : (m : Int) ≤ (now : Int) + (mx : Int) := by omega
        have g2 : ((m : Int) == 121) = true := by simp; omega
        go_wp2_with fail
        go_ret
        exact ⟨rfl, hB_w5⟩
      have hcond : L = 120 → now + mx ≤ 120 := fun e => by have := HMm.out; omega
      have HE' : Hid (¬ ((m : Int) ≤ (now : Int) + (mx : Int) ∧ (m : Int) = 121)) := Lib.hid (by omega)
      have hs : 0 ≤ most → lastF im.code M (Tst.holds ⟨tk, ta, tb⟩) most.toNat now none = lastR l (most + 1).toNat now none := fun h0 => by rw [← HLL2.out, hmxN, show (most + 1).toNat = mx + 1 by omega]; exact lastF_ref HLin.out mx now none hnL hcond
      have hs2 : most < 0 → lastR l (most + 1).toNat now none = none := fun h0 => by rw [show (most + 1).toNat = 0 by omega]; rfl
      obtain ⟨R, hR⟩ : ∃ R, lastR l (most + 1).toNat now none = R := ⟨_, rfl⟩
      rw [hR] at hs hs2
      have HR := Lib.hid hR; have HRF := Lib.hid hs; have HRN := Lib.hid hs2
      clear hR hs hs2 hcond
      by_cases hG : (m : Int) ≤ (now : Int) + (mx : Int)
      · have g2 : ((m : Int) == 121) = false := by have := HE'.out; simp; omega
        go_wp2_with fail
        refine (c_DMachine HV.out HVE.out (j := now) (by omega) HA.out).mono ?_
        rintro e w6 ⟨vm6, vs6, vc6, vi6, vo6, sv6, rfl, hO6, hb6⟩
        have HL6 := Lib.hid (mc_len (tr im.code M now) vm6 vs6 vc6 vi6 vo6 hO6.1)
        have HONE6 : Hid (∀ v ∈ mcells (tr im.code M now) vm6 vs6 vc6 vi6 vo6, v.oneCell' = true) := Lib.hid (by
          obtain ⟨_, _, rfl, _⟩ := hO6.mls.m; obtain ⟨_, _, rfl, _⟩ := hO6.mls.s; obtain ⟨_, _, rfl, _⟩ := hO6.mls.l.2.1; obtain ⟨_, _, rfl, _⟩ := hO6.mls.l.2.2.1; obtain ⟨_, _, rfl, _⟩ := hO6.mls.l.2.2.2
          exact mc_one rfl rfl rfl rfl rfl)
        have HO6 := Lib.hid hO6
        have z6 := hb6.size
        clear hO6
        go_upto_region 14 with (refine wpList_store_row rfl 30 (.tmp 16) (.tmp 64) rfl w6.heap.size _ rfl rfl 30 #[.int .i64 0, .int .i64 0, .int .i64 0, .int .i64 0, .int .i64 0, .int .i64 0, .int .i64 0, .int .i64 0, .int .i64 0, .int .i64 0, .int .i64 0, .int .i64 0, .int .i64 0, .int .i64 0, .int .i64 0, .int .i64 0, .int .i64 0, .int .i64 0, .slice none 0 0, .slice none 0 0, .slice none 0 0, .int .i64 0, .int .i64 0, .slice none 0 0, .slice none 0 0] (heap_alloc_new w6 _) (by rw [info_mach25]; simp [HL6.out]) (by simp [HL6.out]) (all_oneCell_toArray HONE6.out) ?_; simp only [Act.put, List.setIfInBounds_toArray, List.set_cons_succ, List.set_cons_zero])
        refine wp_nameY ?_
        intro w7 hw7
        rw [World.setRow_alloc_new] at hw7
        have hb7 : Below w6.heap.size w6 w7 := by rw [hw7]; exact (by repeat' (first | (with_reducible assumption) | (with_reducible exact Below.refl _ _) | (with_reducible refine Below.alloc ?_ ?_ _) | (with_reducible refine Bk.drewN_ ?_ _) | (with_reducible refine Below.drew ?_) | (with_reducible refine Below.setCell ?_ ?_ _) | go_size))
        have K7 : Blk w7 w6.heap.size 30 (mcells (tr im.code M now) vm6 vs6 vc6 vi6 vo6).toArray := by rw [hw7]; exact Blk.new _ _ _
        have z7 : w6.heap.size < w7.heap.size := K7.lt
        have hbb := hb6.next hb7
        have HX7 := Lib.hid (HO6.out.mls.next hb7)
        have HK7 := Lib.hid K7
        have HV7 := Lib.hid (HV.out.next hbb); have HA7 := Lib.hid (HA.out.next hbb); have HF7 := Lib.hid ((Fr.refl P.O w5).next hbb)
        have HGC7 : Hid (∀ k, k < l.length → w7.cell? ⟨g, k, none⟩ = some (.bool (l.getD k false))) := Lib.hid fun k hk => (hbb.cell (p := ⟨g, k, none⟩) (show g < w5.heap.size by omega)).trans (HGC5.out k hk)
        replace HKT := Lib.hid (HKT.out.next hbb)
        clear hw7 hb6 hb7 K7 hbb HO6 HL6 HONE6
        go_wp2_with fail
        refine (c_refLast (g := g) (cp := cp) (m := m) (l := l) HLEN.out HGC7.out (by omega) (by omega) now (by omega) most hmo9 (by omega)).mono ?_
        rintro e w8 ⟨rfl, hb8⟩
        rw [HR.out]
        have HV8 := Lib.hid (HV7.out.next hb8); have HA8 := Lib.hid (HA7.out.next hb8); have HF8 := Lib.hid (HF7.out.next hb8)
        replace HKT := Lib.hid (HKT.out.next hb8)
        have HX8 := Lib.hid (HX7.out.next hb8); have HK8 := Lib.hid (HK7.out.next hb8)
        have z8 := hb8.size
        clear hb8
        obtain ⟨z_t, T_t, F_t⟩ := HKT.out.open_
        go_wp2_with fail
        refine (c_predicate w8 tk htk ta tb hta).mono ?_
        rintro e w9 ⟨pg, pf, pl, C, rfl, heg, hpm, hC, hb9⟩
        have HV9 := Lib.hid (HV8.out.next hb9); have HA9 := Lib.hid (HA8.out.next hb9); have HF9 := Lib.hid (HF8.out.next hb9)
        have HX9 := Lib.hid (HX8.out.next hb9); have HK9 := Lib.hid (HK8.out.next hb9)
        have z9 := hb9.size
        have hs : Calls Tryd.prog 30 #[.pointer (some ⟨P.b, 0, none⟩), .int .i64 most, .func (.func pg) pf pl] w9 fun e w' => e = .returned (.tuple #[.int .i64 ((R.getD 0 : Nat) : Int), .bool R.isSome]) ∧ DAt w' P im.code M now ∧ Fr P.O w9 w' := by
          by_cases h0 : 0 ≤ most
          · have := c_Last HV9.out HVE.out (j := now) (by omega) (by omega) heg hpm (fun b hb => ⟨(hC b hb).2, fun h => by have := (HO.out _ h).2; have := (hC b hb).1; omega⟩) most hmo9 h0 (by omega) (by omega) HA9.out
            rw [HRF.out h0] at this
            exact this
          · have hRn := HRN.out (by omega)
            rw [hRn]
            exact (c_LastNeg w9 P.b most (by omega) pg pf pl).mono fun e w' h => ⟨h.1, HA9.out.next h.2, (Fr.refl P.O w9).next h.2⟩
        have HS := Lib.hid hs
        clear hs heg hpm hC hb9 T_t z_t F_t
        obtain ⟨rg, hrg⟩ : ∃ rg : Nat, R.getD 0 = rg := ⟨_, rfl⟩
        obtain ⟨rs, hrs⟩ : ∃ rs : Bool, R.isSome = rs := ⟨_, rfl⟩
        have HRR : Hid ((R = none ∧ rg = 0 ∧ rs = false) ∨ (R = some rg ∧ rs = true)) := Lib.hid (by rw [← hrg, ← hrs]; cases R with | none => exact .inl ⟨rfl, rfl, rfl⟩ | some t => exact .inr ⟨rfl, rfl⟩)
        have HRG := Lib.hid hrg; have HRS := Lib.hid hrs
        clear hrg hrs
        go_wp2_with fail
        refine HS.out.mono ?_
        rintro e w10 ⟨rfl, ha10, hf10⟩
        rw [HRG.out, HRS.out]
        have HV10 := Lib.hid (HV9.out.fr hf10); have HA10 := Lib.hid ha10; have HF10 := Lib.hid (HF9.out.trans hf10)
        have hPW : ∀ k, P.O k → k < w5.heap.size := fun k hk => (HO.out k hk).2
        have HX10 := Lib.hid (HX9.out.keep (w' := w10) (fun b o hd => hf10.cell (by have := hd.2; omega) (fun h => by have := hPW _ h; have := hd.1; omega) o) (fun _ h => h) (fun k hk => by have := hk.2; have := hf10.size; omega))
        have HK10 := Lib.hid (hf10.blk HK9.out (fun h => by have := hPW _ h; omega))
        have z10 := hf10.size
        clear ha10 hf10 HS hPW
        go_wp2_with fail
        refine (c_DMachine HV10.out HVE.out (j := now) (by omega) HA10.out).mono ?_
        rintro e w11 ⟨vm11, vs11, vc11, vi11, vo11, sv11, rfl, hO11, hb11⟩
        have HL11 := Lib.hid (mc_len (tr im.code M now) vm11 vs11 vc11 vi11 vo11 hO11.1)
        have HONE11 : Hid (∀ v ∈ mcells (tr im.code M now) vm11 vs11 vc11 vi11 vo11, v.oneCell' = true) := Lib.hid (by
          obtain ⟨_, _, rfl, _⟩ := hO11.mls.m; obtain ⟨_, _, rfl, _⟩ := hO11.mls.s; obtain ⟨_, _, rfl, _⟩ := hO11.mls.l.2.1; obtain ⟨_, _, rfl, _⟩ := hO11.mls.l.2.2.1; obtain ⟨_, _, rfl, _⟩ := hO11.mls.l.2.2.2
          exact mc_one rfl rfl rfl rfl rfl)
        have HO11 := Lib.hid hO11
        have z11 := hb11.size
        clear hO11
        go_upto_region 17 with (refine wpList_store_row rfl 30 (.tmp 20) (.tmp 78) rfl w11.heap.size _ rfl rfl 30 #[.int .i64 0, .int .i64 0, .int .i64 0, .int .i64 0, .int .i64 0, .int .i64 0, .int .i64 0, .int .i64 0, .int .i64 0, .int .i64 0, .int .i64 0, .int .i64 0, .int .i64 0, .int .i64 0, .int .i64 0, .int .i64 0, .int .i64 0, .int .i64 0, .slice none 0 0, .slice none 0 0, .slice none 0 0, .int .i64 0, .int .i64 0, .slice none 0 0, .slice none 0 0] (heap_alloc_new w11 _) (by rw [info_mach25]; simp [HL11.out]) (by simp [HL11.out]) (all_oneCell_toArray HONE11.out) ?_; simp only [Act.put, List.setIfInBounds_toArray, List.set_cons_succ, List.set_cons_zero])
        refine wp_nameY ?_
        intro w12 hw12
        rw [World.setRow_alloc_new] at hw12
        have hb12 : Below w11.heap.size w11 w12 := by rw [hw12]; exact (by repeat' (first | (with_reducible assumption) | (with_reducible exact Below.refl _ _) | (with_reducible refine Below.alloc ?_ ?_ _) | (with_reducible refine Bk.drewN_ ?_ _) | (with_reducible refine Below.drew ?_) | (with_reducible refine Below.setCell ?_ ?_ _) | go_size))
        have K12 : Blk w12 w11.heap.size 30 (mcells (tr im.code M now) vm11 vs11 vc11 vi11 vo11).toArray := by rw [hw12]; exact Blk.new _ _ _
        have z12 : w11.heap.size < w12.heap.size := K12.lt
        have hbb := hb11.next hb12
        have HX12 := Lib.hid (HO11.out.mls.next hb12)
        have HK12 := Lib.hid K12
        have HV12 := Lib.hid (HV10.out.next hbb); have HA12 := Lib.hid (HA10.out.next hbb); have HF12 := Lib.hid (HF10.out.next hbb)
        have HX12b := Lib.hid (HX10.out.next hbb); have HK12b := Lib.hid (HK10.out.next hbb)
        clear hw12 hb11 hb12 K12 hbb HO11 HL11 HONE11
        go_wp2_with fail
        refine (c_DTime HV12.out HA12.out).mono ?_
        rintro e w13 ⟨rfl, hb13⟩
        have HF13 := Lib.hid (HF12.out.next hb13)
        have hm1 := MLs.at_ (HX12b.out.next hb13) (HK12b.out.next hb13)
        have hm2 := MLs.at_ (HX12.out.next hb13) (HK12.out.next hb13)
        have hs := c_EqualT hm1 hm2 (HVE.out.bd now (by omega))
        have HS := Lib.hid hs
        clear hb13 hm1 hm2 hs
        go_wp2_with fail
        refine HS.out.mono ?_
        rintro e w14 ⟨rfl, hb14⟩
        have HF14 := Lib.hid (HF13.out.next hb14)
        clear hb14 HS
        rcases HRR.out with ⟨h1, h2, h3⟩ | ⟨h1, h3⟩
        · subst h1; subst h2; subst h3
          have o1 : optZ none = -1 := rfl
          rw [o1]
          go_wp2_with fail
          go_ret
          exact ⟨rfl, BEL.out _ HF14.out⟩
        · subst h1; subst h3
          have o1 : optZ (some rg) = (rg : Int) := rfl
          rw [o1]
          have o2 : max (rg : Int) 0 = (rg : Int) := by omega
          have o3 : (0 : Int) ≤ (rg : Int) := by omega
          have q1 : ((rg : Int) == (rg : Int)) = true := by simp
          go_wp2_with fail
          go_ret
          exact ⟨by simp, BEL.out _ HF14.out⟩
      · go_wp2_with fail
        refine (c_DMachine HV.out HVE.out (j := now) (by omega) HA.out).mono ?_
        rintro e w6 ⟨vm6, vs6, vc6, vi6, vo6, sv6, rfl, hO6, hb6⟩
        have HL6 := Lib.hid (mc_len (tr im.code M now) vm6 vs6 vc6 vi6 vo6 hO6.1)
        have HONE6 : Hid (∀ v ∈ mcells (tr im.code M now) vm6 vs6 vc6 vi6 vo6, v.oneCell' = true) := Lib.hid (by
          obtain ⟨_, _, rfl, _⟩ := hO6.mls.m; obtain ⟨_, _, rfl, _⟩ := hO6.mls.s; obtain ⟨_, _, rfl, _⟩ := hO6.mls.l.2.1; obtain ⟨_, _, rfl, _⟩ := hO6.mls.l.2.2.1; obtain ⟨_, _, rfl, _⟩ := hO6.mls.l.2.2.2
          exact mc_one rfl rfl rfl rfl rfl)
        have HO6 := Lib.hid hO6
        have z6 := hb6.size
        clear hO6
        go_upto_region 14 with (refine wpList_store_row rfl 30 (.tmp 16) (.tmp 64) rfl w6.heap.size _ rfl rfl 30 #[.int .i64 0, .int .i64 0, .int .i64 0, .int .i64 0, .int .i64 0, .int .i64 0, .int .i64 0, .int .i64 0, .int .i64 0, .int .i64 0, .int .i64 0, .int .i64 0, .int .i64 0, .int .i64 0, .int .i64 0, .int .i64 0, .int .i64 0, .int .i64 0, .slice none 0 0, .slice none 0 0, .slice none 0 0, .int .i64 0, .int .i64 0, .slice none 0 0, .slice none 0 0] (heap_alloc_new w6 _) (by rw [info_mach25]; simp [HL6.out]) (by simp [HL6.out]) (all_oneCell_toArray HONE6.out) ?_; simp only [Act.put, List.setIfInBounds_toArray, List.set_cons_succ, List.set_cons_zero])
        refine wp_nameY ?_
        intro w7 hw7
        rw [World.setRow_alloc_new] at hw7
        have hb7 : Below w6.heap.size w6 w7 := by rw [hw7]; exact (by repeat' (first | (with_reducible assumption) | (with_reducible exact Below.refl _ _) | (with_reducible refine Below.alloc ?_ ?_ _) | (with_reducible refine Bk.drewN_ ?_ _) | (with_reducible refine Below.drew ?_) | (with_reducible refine Below.setCell ?_ ?_ _) | go_size))
        have K7 : Blk w7 w6.heap.size 30 (mcells (tr im.code M now) vm6 vs6 vc6 vi6 vo6).toArray := by rw [hw7]; exact Blk.new _ _ _
        have z7 : w6.heap.size < w7.heap.size := K7.lt
        have hbb := hb6.next hb7
        have HX7 := Lib.hid (HO6.out.mls.next hb7)
        have HK7 := Lib.hid K7
        have HV7 := Lib.hid (HV.out.next hbb); have HA7 := Lib.hid (HA.out.next hbb); have HF7 := Lib.hid ((Fr.refl P.O w5).next hbb)
        have HGC7 : Hid (∀ k, k < l.length → w7.cell? ⟨g, k, none⟩ = some (.bool (l.getD k false))) := Lib.hid fun k hk => (hbb.cell (p := ⟨g, k, none⟩) (show g < w5.heap.size by omega)).trans (HGC5.out k hk)
        replace HKT := Lib.hid (HKT.out.next hbb)
        clear hw7 hb6 hb7 K7 hbb HO6 HL6 HONE6
        go_wp2_with fail
        refine (c_refLast (g := g) (cp := cp) (m := m) (l := l) HLEN.out HGC7.out (by omega) (by omega) now (by omega) most hmo9 (by omega)).mono ?_
        rintro e w8 ⟨rfl, hb8⟩
        rw [HR.out]
        have HV8 := Lib.hid (HV7.out.next hb8); have HA8 := Lib.hid (HA7.out.next hb8); have HF8 := Lib.hid (HF7.out.next hb8)
        replace HKT := Lib.hid (HKT.out.next hb8)
        have HX8 := Lib.hid (HX7.out.next hb8); have HK8 := Lib.hid (HK7.out.next hb8)
        have z8 := hb8.size
        clear hb8
        obtain ⟨z_t, T_t, F_t⟩ := HKT.out.open_
        go_wp2_with fail
        refine (c_predicate w8 tk htk ta tb hta).mono ?_
        rintro e w9 ⟨pg, pf, pl, C, rfl, heg, hpm, hC, hb9⟩
        have HV9 := Lib.hid (HV8.out.next hb9); have HA9 := Lib.hid (HA8.out.next hb9); have HF9 := Lib.hid (HF8.out.next hb9)
        have HX9 := Lib.hid (HX8.out.next hb9); have HK9 := Lib.hid (HK8.out.next hb9)
        have z9 := hb9.size
        have hs : Calls Tryd.prog 30 #[.pointer (some ⟨P.b, 0, none⟩), .int .i64 most, .func (.func pg) pf pl] w9 fun e w' => e = .returned (.tuple #[.int .i64 ((R.getD 0 : Nat) : Int), .bool R.isSome]) ∧ DAt w' P im.code M now ∧ Fr P.O w9 w' := by
          by_cases h0 : 0 ≤ most
          · have := c_Last HV9.out HVE.out (j := now) (by omega) (by omega) heg hpm (fun b hb => ⟨(hC b hb).2, fun h => by have := (HO.out _ h).2; have := (hC b hb).1; omega⟩) most hmo9 h0 (by omega) (by omega) HA9.out
            rw [HRF.out h0] at this
            exact this
          · have hRn := HRN.out (by omega)
            rw [hRn]
            exact (c_LastNeg w9 P.b most (by omega) pg pf pl).mono fun e w' h => ⟨h.1, HA9.out.next h.2, (Fr.refl P.O w9).next h.2⟩
        have HS := Lib.hid hs
        clear hs heg hpm hC hb9 T_t z_t F_t
        obtain ⟨rg, hrg⟩ : ∃ rg : Nat, R.getD 0 = rg := ⟨_, rfl⟩
        obtain ⟨rs, hrs⟩ : ∃ rs : Bool, R.isSome = rs := ⟨_, rfl⟩
        have HRR : Hid ((R = none ∧ rg = 0 ∧ rs = false) ∨ (R = some rg ∧ rs = true)) := Lib.hid (by rw [← hrg, ← hrs]; cases R with | none => exact .inl ⟨rfl, rfl, rfl⟩ | some t => exact .inr ⟨rfl, rfl⟩)
        have HRG := Lib.hid hrg; have HRS := Lib.hid hrs
        clear hrg hrs
        go_wp2_with fail
        refine HS.out.mono ?_
        rintro e w10 ⟨rfl, ha10, hf10⟩
        rw [HRG.out, HRS.out]
        have HV10 := Lib.hid (HV9.out.fr hf10); have HA10 := Lib.hid ha10; have HF10 := Lib.hid (HF9.out.trans hf10)
        have hPW : ∀ k, P.O k → k < w5.heap.size := fun k hk => (HO.out k hk).2
        have HX10 := Lib.hid (HX9.out.keep (w' := w10) (fun b o hd => hf10.cell (by have := hd.2; omega) (fun h => by have := hPW _ h; have := hd.1; omega) o) (fun _ h => h) (fun k hk => by have := hk.2; have := hf10.size; omega))
        have HK10 := Lib.hid (hf10.blk HK9.out (fun h => by have := hPW _ h; omega))
        have z10 := hf10.size
        clear ha10 hf10 HS hPW
        go_wp2_with fail
        refine (c_DMachine HV10.out HVE.out (j := now) (by omega) HA10.out).mono ?_
        rintro e w11 ⟨vm11, vs11, vc11, vi11, vo11, sv11, rfl, hO11, hb11⟩
        have HL11 := Lib.hid (mc_len (tr im.code M now) vm11 vs11 vc11 vi11 vo11 hO11.1)
        have HONE11 : Hid (∀ v ∈ mcells (tr im.code M now) vm11 vs11 vc11 vi11 vo11, v.oneCell' = true) := Lib.hid (by
          obtain ⟨_, _, rfl, _⟩ := hO11.mls.m; obtain ⟨_, _, rfl, _⟩ := hO11.mls.s; obtain ⟨_, _, rfl, _⟩ := hO11.mls.l.2.1; obtain ⟨_, _, rfl, _⟩ := hO11.mls.l.2.2.1; obtain ⟨_, _, rfl, _⟩ := hO11.mls.l.2.2.2
          exact mc_one rfl rfl rfl rfl rfl)
        have HO11 := Lib.hid hO11
        have z11 := hb11.size
        clear hO11
        go_upto_region 17 with (refine wpList_store_row rfl 30 (.tmp 20) (.tmp 78) rfl w11.heap.size _ rfl rfl 30 #[.int .i64 0, .int .i64 0, .int .i64 0, .int .i64 0, .int .i64 0, .int .i64 0, .int .i64 0, .int .i64 0, .int .i64 0, .int .i64 0, .int .i64 0, .int .i64 0, .int .i64 0, .int .i64 0, .int .i64 0, .int .i64 0, .int .i64 0, .int .i64 0, .slice none 0 0, .slice none 0 0, .slice none 0 0, .int .i64 0, .int .i64 0, .slice none 0 0, .slice none 0 0] (heap_alloc_new w11 _) (by rw [info_mach25]; simp [HL11.out]) (by simp [HL11.out]) (all_oneCell_toArray HONE11.out) ?_; simp only [Act.put, List.setIfInBounds_toArray, List.set_cons_succ, List.set_cons_zero])
        refine wp_nameY ?_
        intro w12 hw12
        rw [World.setRow_alloc_new] at hw12
        have hb12 : Below w11.heap.size w11 w12 := by rw [hw12]; exact (by repeat' (first | (with_reducible assumption) | (with_reducible exact Below.refl _ _) | (with_reducible refine Below.alloc ?_ ?_ _) | (with_reducible refine Bk.drewN_ ?_ _) | (with_reducible refine Below.drew ?_) | (with_reducible refine Below.setCell ?_ ?_ _) | go_size))
        have K12 : Blk w12 w11.heap.size 30 (mcells (tr im.code M now) vm11 vs11 vc11 vi11 vo11).toArray := by rw [hw12]; exact Blk.new _ _ _
        have z12 : w11.heap.size < w12.heap.size := K12.lt
        have hbb := hb11.next hb12
        have HX12 := Lib.hid (HO11.out.mls.next hb12)
        have HK12 := Lib.hid K12
        have HV12 := Lib.hid (HV10.out.next hbb); have HA12 := Lib.hid (HA10.out.next hbb); have HF12 := Lib.hid (HF10.out.next hbb)
        have HX12b := Lib.hid (HX10.out.next hbb); have HK12b := Lib.hid (HK10.out.next hbb)
        clear hw12 hb11 hb12 K12 hbb HO11 HL11 HONE11
        go_wp2_with fail
        refine (c_DTime HV12.out HA12.out).mono ?_
        rintro e w13 ⟨rfl, hb13⟩
        have HF13 := Lib.hid (HF12.out.next hb13)
        have hm1 := MLs.at_ (HX12b.out.next hb13) (HK12b.out.next hb13)
        have hm2 := MLs.at_ (HX12.out.next hb13) (HK12.out.next hb13)
        have hs := c_EqualT hm1 hm2 (HVE.out.bd now (by omega))
        have HS := Lib.hid hs
        clear hb13 hm1 hm2 hs
        go_wp2_with fail
        refine HS.out.mono ?_
        rintro e w14 ⟨rfl, hb14⟩
        have HF14 := Lib.hid (HF13.out.next hb14)
        clear hb14 HS
        rcases HRR.out with ⟨h1, h2, h3⟩ | ⟨h1, h3⟩
        · subst h1; subst h2; subst h3
          have o1 : optZ none = -1 := rfl
          rw [o1]
          go_wp2_with fail
          go_ret
          exact ⟨rfl, BEL.out _ HF14.out⟩
        · subst h1; subst h3
          have o1 : optZ (some rg) = (rg : Int) := rfl
          rw [o1]
          have o2 : max (rg : Int) 0 = (rg : Int) := by omega
          have o3 : (0 : Int) ≤ (rg : Int) := by omega
          have q1 : ((rg : Int) == (rg : Int)) = true := by simp
          go_wp2_with fail
          go_ret
          exact ⟨by simp, BEL.out _ HF14.out⟩
theorem c_lawBreakpointLastI (A : Option Addr) (n cap : Nat) (im : Img) (M : Mach) (vm vs vc vi vo : Value) (sv : List Value) (w : World) (hC : Rd w (· < w.heap.size) 5 A n (codeCells im.code)) (hw : CodeWf im.code) (hL : MLs w (· < w.heap.size) M vm vs vc vi vo sv) (hwf : MWf M) (hl : ∀ l ∈ M.s, l.length ≤ 17592186043904) (hcl : M.calls.length ≤ 17592186043904) (hTab : TableAt w) (ki : Int) (ki0 : 0 ≤ ki) (ki1 : ki ≤ 255) (ta tb : Int) (hta : I64 ta) (yi : Int) (yi0 : 0 ≤ yi) (yi1 : yi ≤ 255) (most : Int) (hmo : I64 most) :
    Calls Tryd.prog 9 #[.agg #[.slice A n cap, .int .i64 im.mem, .int .i64 im.stacks], .agg (mcells M vm vs vc vi vo).toArray, .agg #[.int .u8 ki, .int .i64 ta, .int .i64 tb], .int .u8 yi, .int .i64 most] w fun e w' => e = .returned (.bool true) ∧ Below w.heap.size w w' := by
  obtain ⟨tk, rfl⟩ := Int.eq_ofNat_of_zero_le ki0
  obtain ⟨y, rfl⟩ := Int.eq_ofNat_of_zero_le yi0
  exact c_lawBreakpointLast A n cap im M vm vs vc vi vo sv w hC hw hL hwf hl hcl hTab tk (by omega) ta tb hta y (by omega) most hmo
end Go.Proofs.YtiejkfomadaakaaDoor
