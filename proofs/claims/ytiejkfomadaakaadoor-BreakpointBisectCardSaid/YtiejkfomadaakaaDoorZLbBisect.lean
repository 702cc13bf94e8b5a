/- The walk of the law BreakpointBisect. -/
import Derived.Test.YtiejkfomadaakaaDoorBpZ
import Derived.Test.YtiejkfomadaakaaDoorZBpN
set_option linter.unusedVariables false
set_option linter.unusedSimpArgs false
set_option maxRecDepth 100000
namespace Go.Proofs.YtiejkfomadaakaaDoor
open Go.RowKit Bk
set_option maxHeartbeats 16000000 in
theorem c_lawBreakpointBisect (A : Option Addr) (n cap : Nat) (im : Img) (M : Mach) (vm vs vc vi vo : Value) (sv : List Value) (w : World) (hC : Rd w (· < w.heap.size) 5 A n (codeCells im.code)) (hw : CodeWf im.code) (hL : MLs w (· < w.heap.size) M vm vs vc vi vo sv) (hwf : MWf M) (hl : ∀ l ∈ M.s, l.length ≤ 17592186043904) (hcl : M.calls.length ≤ 17592186043904) (hTab : TableAt w) (tk : Nat) (htk : tk ≤ 255) (ta tb : Int) (hta : I64 ta) (y : Nat) (hy : y ≤ 255) (lo : Int) (hlo : I64 lo) (hi : Int) (hhi : I64 hi) :
    Calls Tryd.prog 7 #[.agg #[.slice A n cap, .int .i64 im.mem, .int .i64 im.stacks], .agg (mcells M vm vs vc vi vo).toArray, .agg #[.int .u8 tk, .int .i64 ta, .int .i64 tb], .int .u8 (y : Int), .int .i64 lo, .int .i64 hi] w fun e w' => e = .returned (.bool true) ∧ Below w.heap.size w w' := by
  obtain ⟨sm, hsm⟩ : ∃ sm, sm34 im M = sm := ⟨_, rfl⟩
  have HSM := Lib.hid hsm; clear hsm
  obtain ⟨ok, hok⟩ : ∃ ok, ok34 im M = ok := ⟨_, rfl⟩
  have HOK := Lib.hid hok; clear hok
  have hlo9 := hlo; have hhi9 := hhi
  unfold I64 at hlo hhi
  have hnn : n = im.code.length := by have := hC.1; rw [codeCells_length] at this; omega
  have HC := Lib.hid hC; have HT := Lib.hid hTab; have HL := Lib.hid hL; have HN := Lib.hid hnn; have HWF := Lib.hid hwf; have HLL := Lib.hid hl; have HCL := Lib.hid hcl
  clear hC hTab hL hnn hwf hl hcl
  go_enter Tryd.func7, Tryd.ntmps7
  go_upto_region 1 with fail
  refine wp_nameY ?_
  intro w1 hw1
  have hB_w1 : Below w.heap.size w w1 := by rw [hw1]; exact (by repeat' (first | (with_reducible assumption) | (with_reducible exact Below.refl _ _) | (with_reducible refine Below.alloc ?_ ?_ _) | (with_reducible refine Bk.drewN_ ?_ _) | (with_reducible refine Below.drew ?_) | (with_reducible refine Below.setCell ?_ ?_ _) | go_size))
  have K_1 : Blk w1 w.heap.size 24 #[.slice A n cap, .int .i64 im.mem, .int .i64 im.stacks] := by rw [hw1]; exact (by repeat' (first | with_reducible assumption | (refine Blk.new' ?_ _ _; simp; done) | refine Blk.alloc ?_ _ | refine Blk.drewN ?_ _ | refine Blk.drew ?_))
  have KM : Blk w1 (w.heap.size + 1) 30 (mcells M vm vs vc vi vo).toArray := by rw [hw1]; exact (by repeat' (first | with_reducible assumption | (refine Blk.new' ?_ _ _; simp; done) | refine Blk.alloc ?_ _ | refine Blk.drewN ?_ _ | refine Blk.drew ?_))
  have HM := Lib.hid ((HL.out.next hB_w1).at_ KM)
  have KT : Blk w1 (w.heap.size + 2) 32 #[.int .u8 tk, .int .i64 ta, .int .i64 tb] := by rw [hw1]; exact (by repeat' (first | with_reducible assumption | (refine Blk.new' ?_ _ _; simp; done) | refine Blk.alloc ?_ _ | refine Blk.drewN ?_ _ | refine Blk.drew ?_))
  have HKT := Lib.hid KT
  clear KT
  have zz : w1.heap.size = w.heap.size + 3 := by rw [hw1]; simp
  clear hw1 KM
  obtain ⟨z_1, T_1, F_1⟩ := K_1.open_; have H_1 := Lib.hid K_1; clear K_1
  go_wp2_with fail
  refine (c_awake34 _ (HT.out.next hB_w1)).mono ?_
  rintro e w2 ⟨rfl, hb2⟩
  have hB_w2 := hB_w1.next hb2
  replace HM := Lib.hid (HM.out.next hb2)
  replace HKT := Lib.hid (HKT.out.next hb2)
  have K_1 : Blk w2 (w.heap.size) 24 #[.slice A n cap, .int .i64 im.mem, .int .i64 im.stacks] := Blk.next (by repeat' (first | with_reducible exact H_1.out | with_reducible exact K0_1 | (refine Blk.new' ?_ _ _; simp; done) | with_reducible refine Blk.alloc ?_ _ | with_reducible refine Blk.drewN ?_ _ | with_reducible refine Blk.drew ?_)) hb2; (try clear H_1); (try clear T_1); (try clear z_1); (try clear F_1); obtain ⟨z_1, T_1, F_1⟩ := K_1.open_; have H_1 := Lib.hid K_1; clear K_1
  have z2 := hb2.size
  clear hb2
  go_wp2_with (refine wpList_loadG 30 rfl rfl rfl (load_mach HM.out) ?_; simp only [Act.put, List.setIfInBounds_toArray, List.set_cons_succ, List.set_cons_zero])
  cases sm with
  | false =>
    refine (c_small0 (HL.out.next hB_w2) A n cap im HN.out HSM.out).mono ?_
    rintro e w3 ⟨rfl, hb3⟩
    have hB_w3 := hB_w2.next hb3
    clear hb3
    go_wp2_with fail
    go_ret
    exact ⟨rfl, hB_w3⟩
  | true =>
    refine (c_small1 (HL.out.next hB_w2) A n cap im HN.out HSM.out).mono ?_
    rintro e w3 ⟨rfl, hb3⟩
    have hB_w3 := hB_w2.next hb3
    replace HM := Lib.hid (HM.out.next hb3)
    replace HKT := Lib.hid (HKT.out.next hb3)
    have K_1 : Blk w3 (w.heap.size) 24 #[.slice A n cap, .int .i64 im.mem, .int .i64 im.stacks] := Blk.next (by repeat' (first | with_reducible exact H_1.out | with_reducible exact K0_1 | (refine Blk.new' ?_ _ _; simp; done) | with_reducible refine Blk.alloc ?_ _ | with_reducible refine Blk.drewN ?_ _ | with_reducible refine Blk.drew ?_)) hb3; (try clear H_1); (try clear T_1); (try clear z_1); (try clear F_1); obtain ⟨z_1, T_1, F_1⟩ := K_1.open_; have H_1 := Lib.hid K_1; clear K_1
    have z3 := hb3.size
    have hms : M.s.length ≤ 1000000 := by have := of_decide_eq_true HSM.out; omega
    clear hb3
    by_cases hbig : 120 < hi
    · go_wp2_with fail
      go_ret
      exact ⟨rfl, hB_w3⟩
    have hbig' : hi ≤ 120 := by omega
    obtain ⟨z_t, T_t, F_t⟩ := HKT.out.open_
    go_wp2_with (refine wpList_loadG 30 rfl rfl rfl (load_mach HM.out) ?_; simp only [Act.put, List.setIfInBounds_toArray, List.set_cons_succ, List.set_cons_zero])
    cases ok with
    | false =>
      refine (c_lineNone A n cap im M vm vs vc vi vo sv w3 (Rd.upL HC.out hB_w3) hw (MLs.up HL.out hB_w3) HWF.out HLL.out HCL.out (HT.out.next hB_w3) tk htk ta tb hta hms HOK.out).mono ?_
      rintro e w4 ⟨rfl, hb4⟩
      have hB_w4 := hB_w3.next hb4
      clear hb4
      go_wp2_with fail
      go_ret
      exact ⟨rfl, hB_w4⟩
    | true =>
      obtain ⟨L, hLin⟩ := lin_any im.code M 120
      obtain ⟨m, hm⟩ : ∃ m, m = L + 1 := ⟨_, rfl⟩
      obtain ⟨hck, hff⟩ : im.check.2 = 0 ∧ fitsB im M = true := by have h := HOK.out; unfold ok34 at h; simpa using h
      have HVE : Hid (VEnv im M 400) := Lib.hid (VEnv.of hck hw (Fit.of HWF.out hff) (K := 17592186043904) HLL.out (by omega))
      have hL120 : L ≤ 120 := hLin.le
      have hm121 : m ≤ 121 := by omega
      have HLin := Lib.hid hLin; have HMm := Lib.hid hm
      clear hck hff hLin
      refine (c_lineOk A n cap im M vm vs vc vi vo sv w3 (Rd.upL HC.out hB_w3) hw (MLs.up HL.out hB_w3) HWF.out HLL.out HCL.out (HT.out.next hB_w3) tk htk ta tb hta hms HOK.out HLin.out).mono ?_
      rintro e w4 ⟨g, cp, rfl, hown, hb4⟩
      rw [← hm] at hown ⊢
      obtain ⟨g2, cp2, hgeq, hg3, hg4, _, _, hgc⟩ := own_some hown (by omega)
      have hgg : g = g2 := by
        injection hgeq with h1 _ _
        injection h1 with h1
        injection h1 with h1 _ _
      subst hgg
      clear hgeq
      obtain ⟨l, hll⟩ : ∃ l, tl (Tst.holds ⟨tk, ta, tb⟩) im.code M L = l := ⟨_, rfl⟩
      have HLL2 := Lib.hid hll
      have hlen : m = l.length := by rw [← hll, tl_len]; exact hm
      have HLEN := Lib.hid hlen
      rw [hll] at hgc
      have HGC : Hid (∀ k, k < l.length → w4.cell? ⟨g, k, none⟩ = some (.bool (l.getD k false))) := Lib.hid fun k hk => hgc k _ (boolCells_get l k hk)
      have hB_w4 := hB_w3.next hb4
      replace HM := Lib.hid (HM.out.next hb4)
      replace HKT := Lib.hid (HKT.out.next hb4)
      have K_1 : Blk w4 (w.heap.size) 24 #[.slice A n cap, .int .i64 im.mem, .int .i64 im.stacks] := Blk.next (by repeat' (first | with_reducible exact H_1.out | with_reducible exact K0_1 | (refine Blk.new' ?_ _ _; simp; done) | with_reducible refine Blk.alloc ?_ _ | with_reducible refine Blk.drewN ?_ _ | with_reducible refine Blk.drew ?_)) hb4; (try clear H_1); (try clear T_1); (try clear z_1); (try clear F_1); obtain ⟨z_1, T_1, F_1⟩ := K_1.open_; have H_1 := Lib.hid K_1; clear K_1
      have z4 := hb4.size
      clear hb4 hown hgc hm hll hlen T_t z_t F_t
      go_wp2_with (refine wpList_loadG 30 rfl rfl rfl (load_mach HM.out) ?_; simp only [Act.put, List.setIfInBounds_toArray, List.set_cons_succ, List.set_cons_zero])
      obtain ⟨now, hnow⟩ : ∃ now, now = y % m := ⟨_, rfl⟩
      refine (c_at A n cap im M vm vs vc vi vo sv w4 (Rd.upL HC.out hB_w4) hw (MLs.up HL.out hB_w4) HWF.out HLL.out HCL.out (HT.out.next hB_w4) hms HOK.out HMm.out HLin.out g cp y now hy hnow).mono ?_
      rintro e w5 ⟨P, A', n', cap', rfl, hV, hA, hO, hb5⟩
      have hnL : now ≤ L := by have := Nat.mod_lt y (show 0 < m by have := HMm.out; omega); have := HMm.out; omega
      have hB_w5 := hB_w4.next hb5
      replace HM := Lib.hid (HM.out.next hb5)
      replace HKT := Lib.hid (HKT.out.next hb5)
      have HGC5 : Hid (∀ k, k < l.length → w5.cell? ⟨g, k, none⟩ = some (.bool (l.getD k false))) := Lib.hid fun k hk => (hb5.cell (p := ⟨g, k, none⟩) hg4).trans (HGC.out k hk)
      have z5 := hb5.size
      have HV := Lib.hid hV; have HA := Lib.hid hA; have HO := Lib.hid hO
      have BEL : Hid (∀ wz, Fr P.O w5 wz → Below w.heap.size w wz) := Lib.hid fun wz hf => hB_w5.trans (hf.below (B := w.heap.size) (by have := hB_w5.size; omega) (fun k hk => by have := (hO k hk).1; have := hB_w4.size; omega))
      clear hV hA hO hb5 hnow T_1 z_1 F_1 H_1
      obtain ⟨z_t, T_t, F_t⟩ := HKT.out.open_
      go_wp2_with fail
      refine (c_predicate w5 tk htk ta tb hta).mono ?_
      rintro e w6 ⟨pg, pf, pl, C, rfl, heg, hpm, hC, hb6⟩
      have HV6 := Lib.hid (HV.out.next hb6); have HA6 := Lib.hid (HA.out.next hb6); have HF6 := Lib.hid ((Fr.refl P.O w5).next hb6)
      have hCC : ∀ b, C b → b < w6.heap.size ∧ ¬ P.O b := fun b hb => ⟨(hC b hb).2, fun h => by have := (HO.out _ h).2; have := (hC b hb).1; omega⟩
      have z6 := hb6.size
      by_cases hA0 : lo < 0 ∨ hi ≤ lo
      · have hs : Calls Tryd.prog 27 #[.pointer (some ⟨P.b, 0, none⟩), .int .i64 lo, .int .i64 hi, .func (.func pg) pf pl] w6 fun e w' => e = .returned (.tuple #[.int .i64 0, .int .i64 2]) ∧ DAt w' P im.code M now ∧ Fr P.O w6 w' := (c_BisectRange w6 P.b lo hi hA0 pg pf pl).mono fun e w' h => ⟨h.1, HA6.out.next h.2, (Fr.refl P.O w6).next h.2⟩
        have HS := Lib.hid hs
        clear hs heg hpm hC hCC hb6 T_t z_t F_t
        go_wp2_with fail
        refine HS.out.mono ?_
        rintro e w7 ⟨rfl, ha7, hf7⟩
        have HV7 := Lib.hid (HV6.out.fr hf7); have HA7 := Lib.hid ha7; have HF7 := Lib.hid (HF6.out.trans hf7)
        have HGC7 : Hid (∀ k, k < l.length → w7.cell? ⟨g, k, none⟩ = some (.bool (l.getD k false))) := Lib.hid fun k hk => (HF7.out.cell (show g < w5.heap.size by omega) (fun h => by have := (HO.out _ h).1; omega) k).trans (HGC5.out k hk)
        have z7 := hf7.size
        clear ha7 hf7 HS
        go_wp2_with fail
        refine (c_DTime HV7.out HA7.out).mono ?_
        rintro e w8 ⟨rfl, hb8⟩
        have HF8 := Lib.hid (HF7.out.next hb8)
        have HGC8 : Hid (∀ k, k < l.length → w8.cell? ⟨g, k, none⟩ = some (.bool (l.getD k false))) := Lib.hid fun k hk => (hb8.cell (p := ⟨g, k, none⟩) (show g < w7.heap.size by omega)).trans (HGC7.out k hk)
        have z8 := hb8.size
        clear hb8
        by_cases hA1 : 0 ≤ lo
        · have hA2 : ¬ lo < hi := by omega
          go_wp2_with fail
          refine (c_refBisectRange g m cp lo hi hA0).mono ?_
          rintro e w9 ⟨rfl, hb9⟩
          have HF9 := Lib.hid (HF8.out.next hb9)
          clear hb9
          go_wp2_with fail
          go_ret
          exact ⟨by first | rfl | simp, BEL.out _ HF9.out⟩
        · go_wp2_with fail
          refine (c_refBisectRange g m cp lo hi hA0).mono ?_
          rintro e w9 ⟨rfl, hb9⟩
          have HF9 := Lib.hid (HF8.out.next hb9)
          clear hb9
          go_wp2_with fail
          go_ret
          exact ⟨by first | rfl | simp, BEL.out _ HF9.out⟩
      obtain ⟨lo', rfl⟩ := Int.eq_ofNat_of_zero_le (show 0 ≤ lo by omega)
      obtain ⟨h', rfl⟩ := Int.eq_ofNat_of_zero_le (show 0 ≤ hi by omega)
      have hlh : lo' < h' := by omega
      by_cases hB0 : m ≤ h'
      · have hL2 : L ≠ 120 := by have := HMm.out; omega
        have hte : te im.code M L ≠ 0 := HLin.out.stop.resolve_left hL2
        obtain ⟨ee, hee⟩ : ∃ ee, te im.code M L = ee := ⟨_, rfl⟩
        have hne : ee ≠ 0 := by rw [← hee]; exact hte
        have q1 : (ee != 0) = true := by simpa using hne
        have g3 : (m : Int) ≤ (h' : Int) := by omega
        have hs : Calls Tryd.prog 27 #[.pointer (some ⟨P.b, 0, none⟩), .int .i64 (lo' : Int), .int .i64 (h' : Int), .func (.func pg) pf pl] w6 fun e w' => e = .returned (.tuple #[.int .i64 0, .int .i64 ee]) ∧ DAt w' P im.code M now ∧ Fr P.O w6 w' := c_BisectErr HV6.out HVE.out (j := now) (by omega) (by omega) heg hpm hCC (lo := lo') (hi := h') (by omega) (by omega) (by omega) (k := L) (by have := HMm.out; omega) HLin.out.ran hee hne HA6.out
        have HS := Lib.hid hs
        clear hs heg hpm hC hCC hb6 T_t z_t F_t
        go_wp2_with fail
        refine HS.out.mono ?_
        rintro e w7 ⟨rfl, ha7, hf7⟩
        have HV7 := Lib.hid (HV6.out.fr hf7); have HA7 := Lib.hid ha7; have HF7 := Lib.hid (HF6.out.trans hf7)
        have HGC7 : Hid (∀ k, k < l.length → w7.cell? ⟨g, k, none⟩ = some (.bool (l.getD k false))) := Lib.hid fun k hk => (HF7.out.cell (show g < w5.heap.size by omega) (fun h => by have := (HO.out _ h).1; omega) k).trans (HGC5.out k hk)
        have z7 := hf7.size
        clear ha7 hf7 HS
        go_wp2_with fail
        refine (c_DTime HV7.out HA7.out).mono ?_
        rintro e w8 ⟨rfl, hb8⟩
        have HF8 := Lib.hid (HF7.out.next hb8)
        have HGC8 : Hid (∀ k, k < l.length → w8.cell? ⟨g, k, none⟩ = some (.bool (l.getD k false))) := Lib.hid fun k hk => (hb8.cell (p := ⟨g, k, none⟩) (show g < w7.heap.size by omega)).trans (HGC7.out k hk)
        have z8 := hb8.size
        clear hb8
        have g1 : (0 : Int) ≤ (lo' : Int) := by omega
        have g2 : (lo' : Int) < (h' : Int) := by omega
        clear hte hee hL2 hne
        go_wp2_with fail
        go_ret
        exact ⟨by first | rfl | simp, BEL.out _ HF8.out⟩
      have g1 : (0 : Int) ≤ (lo' : Int) := by omega
      have g2 : (lo' : Int) < (h' : Int) := by omega
      have g3 : ¬ (m : Int) ≤ (h' : Int) := by omega
      have hRan : Ran im.code M h' := HLin.out.ran.le (by have := HMm.out; omega)
      have hgl : ∀ t, t ≤ L → l.getD t false = (Tst.holds ⟨tk, ta, tb⟩) (tr im.code M t) := fun t ht => by rw [← HLL2.out]; exact tl_get ht
      have elo := hgl lo' (by have := HMm.out; omega)
      have ehi := hgl h' (by have := HMm.out; omega)
      obtain ⟨b1, hb1⟩ : ∃ b1, l.getD lo' false = b1 := ⟨_, rfl⟩
      obtain ⟨b2, hb2⟩ : ∃ b2, l.getD h' false = b2 := ⟨_, rfl⟩
      by_cases hst : b1 = true ∨ b2 = false
      · have hst1 : l.getD lo' false = true ∨ l.getD h' false = false := by rw [hb1, hb2]; exact hst
        have hst2 : (Tst.holds ⟨tk, ta, tb⟩) (tr im.code M lo') = true ∨ (Tst.holds ⟨tk, ta, tb⟩) (tr im.code M h') = false := by rw [← elo, ← ehi]; exact hst1
        have HST1 := Lib.hid hst1
        have hs : Calls Tryd.prog 27 #[.pointer (some ⟨P.b, 0, none⟩), .int .i64 (lo' : Int), .int .i64 (h' : Int), .func (.func pg) pf pl] w6 fun e w' => e = .returned (.tuple #[.int .i64 0, .int .i64 20]) ∧ DAt w' P im.code M now ∧ Fr P.O w6 w' := c_BisectState HV6.out HVE.out (j := now) (by omega) (by omega) heg hpm hCC (lo := lo') (hi := h') (by omega) (by omega) (by omega) hRan hst2 HA6.out
        have HS := Lib.hid hs
        clear hs heg hpm hC hCC hb6 T_t z_t F_t
        go_wp2_with fail
        refine HS.out.mono ?_
        rintro e w7 ⟨rfl, ha7, hf7⟩
        have HV7 := Lib.hid (HV6.out.fr hf7); have HA7 := Lib.hid ha7; have HF7 := Lib.hid (HF6.out.trans hf7)
        have HGC7 : Hid (∀ k, k < l.length → w7.cell? ⟨g, k, none⟩ = some (.bool (l.getD k false))) := Lib.hid fun k hk => (HF7.out.cell (show g < w5.heap.size by omega) (fun h => by have := (HO.out _ h).1; omega) k).trans (HGC5.out k hk)
        have z7 := hf7.size
        clear ha7 hf7 HS
        go_wp2_with fail
        refine (c_DTime HV7.out HA7.out).mono ?_
        rintro e w8 ⟨rfl, hb8⟩
        have HF8 := Lib.hid (HF7.out.next hb8)
        have HGC8 : Hid (∀ k, k < l.length → w8.cell? ⟨g, k, none⟩ = some (.bool (l.getD k false))) := Lib.hid fun k hk => (hb8.cell (p := ⟨g, k, none⟩) (show g < w7.heap.size by omega)).trans (HGC7.out k hk)
        have z8 := hb8.size
        clear hb8
        clear hst1 hst2 hst hb1 hb2 elo ehi hgl hRan
        go_wp2_with fail
        refine (c_refBisectState (g := g) (cp := cp) (m := m) (l := l) HLEN.out HGC8.out (by omega) (by omega) (lo := lo') (hi := h') (by omega) (by omega) HST1.out).mono ?_
        rintro e w9 ⟨rfl, hb9⟩
        have HF9 := Lib.hid (HF8.out.next hb9)
        clear hb9
        go_wp2_with fail
        go_ret
        exact ⟨by first | rfl | simp, BEL.out _ HF9.out⟩
      · have hf1 : l.getD lo' false = false := by rw [hb1]; simpa using fun h => hst (.inl h)
        have hf2 : l.getD h' false = true := by rw [hb2]; simpa using fun h => hst (.inr h)
        obtain ⟨R, hR⟩ : ∃ R, bis (fun t => l.getD t false) (h' - lo') lo' h' = R := ⟨_, rfl⟩
        have hbe : bis (fun t => (Tst.holds ⟨tk, ta, tb⟩) (tr im.code M t)) (h' - lo') lo' h' = R := by rw [← hR]; exact bis_congr _ _ _ (by omega) (fun t h1 h2 => (hgl t (by have := HMm.out; omega)).symm)
        obtain ⟨s1, s2, s3, s4⟩ := bis_spec (p := fun t => l.getD t false) (h' - lo') lo' h' (by omega) (by omega) hf1 hf2
        rw [hR] at s1 s2 s3 s4
        have hs0 := c_BisectOk HV6.out HVE.out (j := now) (by omega) (by omega) heg hpm hCC (lo := lo') (hi := h') (by omega) (by omega) (by omega) hRan (by rw [← elo]; exact hf1) (by rw [← ehi]; exact hf2) HA6.out
        rw [hbe] at hs0
        have HF1 := Lib.hid hf1; have HF2 := Lib.hid hf2; have HRb := Lib.hid hR; have HS3 := Lib.hid s3; have HS4 := Lib.hid s4
        have hs : Calls Tryd.prog 27 #[.pointer (some ⟨P.b, 0, none⟩), .int .i64 (lo' : Int), .int .i64 (h' : Int), .func (.func pg) pf pl] w6 fun e w' => e = .returned (.tuple #[.int .i64 (R : Int), .int .i64 0]) ∧ DAt w' P im.code M now ∧ Fr P.O w6 w' := hs0
        have HS := Lib.hid hs
        clear hs heg hpm hC hCC hb6 T_t z_t F_t
        go_wp2_with fail
        refine HS.out.mono ?_
        rintro e w7 ⟨rfl, ha7, hf7⟩
        have HV7 := Lib.hid (HV6.out.fr hf7); have HA7 := Lib.hid ha7; have HF7 := Lib.hid (HF6.out.trans hf7)
        have HGC7 : Hid (∀ k, k < l.length → w7.cell? ⟨g, k, none⟩ = some (.bool (l.getD k false))) := Lib.hid fun k hk => (HF7.out.cell (show g < w5.heap.size by omega) (fun h => by have := (HO.out _ h).1; omega) k).trans (HGC5.out k hk)
        have z7 := hf7.size
        clear ha7 hf7 HS
        go_wp2_with fail
        refine (c_DTime HV7.out HA7.out).mono ?_
        rintro e w8 ⟨rfl, hb8⟩
        have HF8 := Lib.hid (HF7.out.next hb8)
        have HGC8 : Hid (∀ k, k < l.length → w8.cell? ⟨g, k, none⟩ = some (.bool (l.getD k false))) := Lib.hid fun k hk => (hb8.cell (p := ⟨g, k, none⟩) (show g < w7.heap.size by omega)).trans (HGC7.out k hk)
        have z8 := hb8.size
        clear hb8
        clear hs0 hbe hf1 hf2 hR s3 s4 hst hb1 hb2 elo ehi hgl hRan
        go_wp2_with fail
        have hs9 := c_refBisectOk (w := w8) (g := g) (cp := cp) (m := m) (l := l) HLEN.out HGC8.out (by omega) (by omega) (lo := lo') (hi := h') (by omega) (by omega) HF1.out HF2.out
        rw [HRb.out] at hs9
        refine hs9.mono ?_
        clear hs9
        rintro e w9 ⟨rfl, hb9⟩
        have HF9 := Lib.hid (HF8.out.next hb9)
        have ec1 := (hb9.cell (p := ⟨g, R, none⟩) (show g < w8.heap.size by omega)).trans (HGC8.out R (by have := HLEN.out; omega))
        have ec2 := (hb9.cell (p := ⟨g, R - 1, none⟩) (show g < w8.heap.size by omega)).trans (HGC8.out (R - 1) (by have := HLEN.out; omega))
        rw [show l.getD R false = true from HS3.out] at ec1
        rw [show l.getD (R - 1) false = false from HS4.out] at ec2
        obtain ⟨R', rfl⟩ : ∃ R', R = R' + 1 := ⟨R - 1, by omega⟩
        rw [Nat.add_sub_cancel] at ec2
        have r0 : (1 : Int) ≤ ((R' + 1 : Nat) : Int) := by omega
        have r1 : ((R' + 1 : Nat) : Int) < (m : Int) := by omega
        have r2 : (0 : Int) ≤ ((R' + 1 : Nat) : Int) := by omega
        have r3 : ((R' + 1 : Nat) : Int) - 1 = (R' : Int) := by omega
        have r4 : (0 : Int) ≤ (R' : Int) := by omega
        have r5 : (R' : Int) < (m : Int) := by omega
        have hgl9 : g < w9.heap.size := by have := hb9.size; omega
        clear hb9
        go_wp2_with fail
        go_ret
        exact ⟨by first | rfl | simp, BEL.out _ HF9.out⟩
theorem c_lawBreakpointBisectI (A : Option Addr) (n cap : Nat) (im : Img) (M : Mach) (vm vs vc vi vo : Value) (sv : List Value) (w : World) (hC : Rd w (· < w.heap.size) 5 A n (codeCells im.code)) (hw : CodeWf im.code) (hL : MLs w (· < w.heap.size) M vm vs vc vi vo sv) (hwf : MWf M) (hl : ∀ l ∈ M.s, l.length ≤ 17592186043904) (hcl : M.calls.length ≤ 17592186043904) (hTab : TableAt w) (ki : Int) (ki0 : 0 ≤ ki) (ki1 : ki ≤ 255) (ta tb : Int) (hta : I64 ta) (yi : Int) (yi0 : 0 ≤ yi) (yi1 : yi ≤ 255) (lo : Int) (hlo : I64 lo) (hi : Int) (hhi : I64 hi) :
    Calls Tryd.prog 7 #[.agg #[.slice A n cap, .int .i64 im.mem, .int .i64 im.stacks], .agg (mcells M vm vs vc vi vo).toArray, .agg #[.int .u8 ki, .int .i64 ta, .int .i64 tb], .int .u8 yi, .int .i64 lo, .int .i64 hi] w fun e w' => e = .returned (.bool true) ∧ Below w.heap.size w w' := by
  obtain ⟨tk, rfl⟩ := Int.eq_ofNat_of_zero_le ki0
  obtain ⟨y, rfl⟩ := Int.eq_ofNat_of_zero_le yi0
  exact c_lawBreakpointBisect A n cap im M vm vs vc vi vo sv w hC hw hL hwf hl hcl hTab tk (by omega) ta tb hta y (by omega) lo hlo hi hhi
end Go.Proofs.YtiejkfomadaakaaDoor
