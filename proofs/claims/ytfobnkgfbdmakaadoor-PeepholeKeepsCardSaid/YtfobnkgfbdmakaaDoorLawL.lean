/- The walk of the law PeepholeKeeps. -/
import Derived.Test.YtfobnkgfbdmakaaDoorLawK
set_option linter.unusedVariables false
namespace Go.Proofs.YtfobnkgfbdmakaaDoor
open Go.RowKit Bk

set_option maxRecDepth 100000 in
set_option maxHeartbeats 40000000 in
theorem Keeps.good (A : Option Addr) (n cap : Nat) (im : Img) (w : World) (ce : Int) (h0 : ce = 0) (h90 : n ≤ 90) (hA : A = none → n = 0 ∧ cap = 0) (hC : Rd w (· < w.heap.size) 5 A n (codeCells im.code)) (hw : CodeWf im.code) (hTab : TableAt w) (hce : im.check.2 = ce) :
    Calls Tryd.prog 7 #[.agg #[.slice A n cap, .int .i64 im.mem, .int .i64 im.stacks]] w fun e w' => e = .returned (.bool true) ∧ Below w.heap.size w w' := by
  have hn : n = im.code.length := by have := hC.1; rw [codeCells_length] at this; omega
  obtain ⟨i2, li, lz, ls, lb⟩ := info_parts info_ins
  have HN := Lib.hid hn; have HT := Lib.hid hTab; have HC := Lib.hid hC; have HA := Lib.hid hA
  clear hn hTab hC hA
  have hgt : decide ((90 : Int) < (n : Int)) = false := by simp; omega
  go_enter Tryd.func7, Tryd.ntmps7
  go_wp2_with fail
  refine (c_awake _ (HT.out.next (by repeat' (first | (with_reducible assumption) | (with_reducible exact Below.refl _ _) | (with_reducible refine Below.alloc ?_ ?_ _) | (with_reducible refine Bk.drewN_ ?_ _) | (with_reducible refine Below.drew ?_) | (with_reducible refine Below.setCell ?_ ?_ _) | go_size)))).mono ?_
  rintro e w1 ⟨rfl, hb1⟩
  have hB1 : Below w.heap.size w w1 := Below.trans (by repeat' (first | (with_reducible assumption) | (with_reducible exact Below.refl _ _) | (with_reducible refine Below.alloc ?_ ?_ _) | (with_reducible refine Bk.drewN_ ?_ _) | (with_reducible refine Below.drew ?_) | (with_reducible refine Below.setCell ?_ ?_ _) | go_size)) (hb1.mono (by go_size))
  have K_1 : Blk w1 (w.heap.size) 30 #[.slice A n cap, .int .i64 im.mem, .int .i64 im.stacks] := Blk.next (by repeat' (first | with_reducible exact H_1.out | with_reducible exact K0_1 | (refine Blk.new' ?_ _ _; simp; done) | with_reducible refine Blk.alloc ?_ _ | with_reducible refine Blk.drewN ?_ _ | with_reducible refine Blk.drew ?_)) hb1; (try clear H_1); (try clear T_1); (try clear z_1); (try clear F_1); obtain ⟨z_1, T_1, F_1⟩ := K_1.open_; have H_1 := Lib.hid K_1; clear K_1
  clear hb1
  go_wp2_with (at_builtin; go_must (refine wpList_append_code rfl _ _ rfl w1.heap.size _ 0 [] rfl (World.ownsRow_made w1 #[] 0 (Nat.le_refl _) (Nat.zero_le _) rfl) A n cap im.code rfl HA.out (HC.out.next (by repeat' (first | (with_reducible assumption) | (with_reducible exact Below.refl _ _) | (with_reducible refine Below.alloc ?_ ?_ _) | (with_reducible refine Bk.drewN_ ?_ _) | (with_reducible refine Below.drew ?_) | (with_reducible refine Below.setCell ?_ ?_ _) | go_size))) (by omega) (by simp) ?_))
  intro v2 w2 ho2' hg2
  have ho2 : w2.ownsRow w1.heap.size 23 5 v2 n (codeCells im.code) := by simpa using ho2'
  clear ho2'
  have hb2 : Below w1.heap.size w1 w2 := Below.trans (by repeat' (first | (with_reducible assumption) | (with_reducible exact Below.refl _ _) | (with_reducible refine Below.alloc ?_ ?_ _) | (with_reducible refine Bk.drewN_ ?_ _) | (with_reducible refine Below.drew ?_) | (with_reducible refine Below.setCell ?_ ?_ _) | go_size)) (below_grown (B := w1.heap.size) hg2 (by simp) (by intro k hk; simp [Value.ownBlock] at hk; omega))
  have hB2 : Below w.heap.size w w2 := Below.trans (by repeat' (first | (with_reducible assumption) | (with_reducible exact Below.refl _ _) | (with_reducible refine Below.alloc ?_ ?_ _) | (with_reducible refine Bk.drewN_ ?_ _) | (with_reducible refine Below.drew ?_) | (with_reducible refine Below.setCell ?_ ?_ _) | go_size)) (hb2.mono (by go_size))
  have K_1 : Blk w2 (w.heap.size) 30 #[.slice A n cap, .int .i64 im.mem, .int .i64 im.stacks] := Blk.next (by repeat' (first | with_reducible exact H_1.out | with_reducible exact K0_1 | (refine Blk.new' ?_ _ _; simp; done) | with_reducible refine Blk.alloc ?_ _ | with_reducible refine Blk.drewN ?_ _ | with_reducible refine Blk.drew ?_)) hb2; (try clear H_1); (try clear T_1); (try clear z_1); (try clear F_1); obtain ⟨z_1, T_1, F_1⟩ := K_1.open_; have H_1 := Lib.hid K_1; clear K_1
  obtain ⟨A2, cap2, rfl⟩ := own_form ho2
  have hR2 := (Rd.of_own ho2).mono (D' := (· < w2.heap.size)) fun _ h => h.2
  have HR2 := Lib.hid hR2
  clear ho2 hg2 hb2 hR2
  have hcke : im.check = (im.check.1, im.check.2) := rfl
  obtain ⟨ci, hci⟩ : ∃ x, im.check.1 = x := ⟨_, rfl⟩
  have hck : im.check = (ci, ce) := Prod.ext hci hce
  have HCK := Lib.hid hck; have HCE := Lib.hid hce
  clear hcke hci hck
  subst h0
  have hck := HCE.out
  have hko := keep_opt im.code
  have hpo := procs_opt im.code
  have hwO : CodeWf (optCode im.code) := optCode_wf hw (by have := HN.out; omega)
  have hle : (optCode im.code).length ≤ im.code.length := by rw [optCode_length]; exact kept_length _
  have HKO := Lib.hid hko; have HPO := Lib.hid hpo; have HWO := Lib.hid hwO; have HLE := Lib.hid hle; have HCK2 := Lib.hid hck
  clear hce hck hko hpo hwO hle
  go_wp2_with fail
  refine (c_OptimizeG _ _ _ im HCK2.out _ (HC.out.next (by repeat' (first | (with_reducible assumption) | (with_reducible exact Below.refl _ _) | (with_reducible refine Below.alloc ?_ ?_ _) | (with_reducible refine Bk.drewN_ ?_ _) | (with_reducible refine Below.drew ?_) | (with_reducible refine Below.setCell ?_ ?_ _) | go_size))) hw (HT.out.next (by repeat' (first | (with_reducible assumption) | (with_reducible exact Below.refl _ _) | (with_reducible refine Below.alloc ?_ ?_ _) | (with_reducible refine Bk.drewN_ ?_ _) | (with_reducible refine Below.drew ?_) | (with_reducible refine Below.setCell ?_ ?_ _) | go_size)))).mono ?_
  rintro e w3 ⟨A3, m3, c3, rfl, hm3, hR3, hb3⟩
  have hB3 : Below w.heap.size w w3 := Below.trans (by repeat' (first | (with_reducible assumption) | (with_reducible exact Below.refl _ _) | (with_reducible refine Below.alloc ?_ ?_ _) | (with_reducible refine Bk.drewN_ ?_ _) | (with_reducible refine Below.drew ?_) | (with_reducible refine Below.setCell ?_ ?_ _) | go_size)) (hb3.mono (by go_size))
  have K_1 : Blk w3 (w.heap.size) 30 #[.slice A n cap, .int .i64 im.mem, .int .i64 im.stacks] := Blk.next (by repeat' (first | with_reducible exact H_1.out | with_reducible exact K0_1 | (refine Blk.new' ?_ _ _; simp; done) | with_reducible refine Blk.alloc ?_ _ | with_reducible refine Blk.drewN ?_ _ | with_reducible refine Blk.drew ?_)) hb3; (try clear H_1); (try clear T_1); (try clear z_1); (try clear F_1); obtain ⟨z_1, T_1, F_1⟩ := K_1.open_; have H_1 := Lib.hid K_1; clear K_1
  have hR2 := HR2.out.next hb3
  have HM3 := Lib.hid hm3; have HR3 := Lib.hid hR3
  clear HR2
  have HR2 := Lib.hid hR2
  clear hb3 hm3 hR3 hR2
  go_wp2_with fail
  refine (c_Check' _ _ _ im HCK.out _ (HC.out.next (by repeat' (first | (with_reducible assumption) | (with_reducible exact Below.refl _ _) | (with_reducible refine Below.alloc ?_ ?_ _) | (with_reducible refine Bk.drewN_ ?_ _) | (with_reducible refine Below.drew ?_) | (with_reducible refine Below.setCell ?_ ?_ _) | go_size))) hw (HT.out.next (by repeat' (first | (with_reducible assumption) | (with_reducible exact Below.refl _ _) | (with_reducible refine Below.alloc ?_ ?_ _) | (with_reducible refine Bk.drewN_ ?_ _) | (with_reducible refine Below.drew ?_) | (with_reducible refine Below.setCell ?_ ?_ _) | go_size)))).mono ?_
  rintro e w4 ⟨rfl, hb4⟩
  have hB4 : Below w.heap.size w w4 := Below.trans (by repeat' (first | (with_reducible assumption) | (with_reducible exact Below.refl _ _) | (with_reducible refine Below.alloc ?_ ?_ _) | (with_reducible refine Bk.drewN_ ?_ _) | (with_reducible refine Below.drew ?_) | (with_reducible refine Below.setCell ?_ ?_ _) | go_size)) (hb4.mono (by go_size))
  have K_1 : Blk w4 (w.heap.size) 30 #[.slice A n cap, .int .i64 im.mem, .int .i64 im.stacks] := Blk.next (by repeat' (first | with_reducible exact H_1.out | with_reducible exact K0_1 | (refine Blk.new' ?_ _ _; simp; done) | with_reducible refine Blk.alloc ?_ _ | with_reducible refine Blk.drewN ?_ _ | with_reducible refine Blk.drew ?_)) hb4; have K_3 : Blk w4 (w3.heap.size) 30 #[.slice A3 m3 c3, .int .i64 im.mem, .int .i64 im.stacks] := Blk.next (by repeat' (first | with_reducible exact H_3.out | with_reducible exact K0_3 | (refine Blk.new' ?_ _ _; simp; done) | with_reducible refine Blk.alloc ?_ _ | with_reducible refine Blk.drewN ?_ _ | with_reducible refine Blk.drew ?_)) hb4; (try clear H_1); (try clear T_1); (try clear z_1); (try clear F_1); (try clear H_3); (try clear T_3); (try clear z_3); (try clear F_3); obtain ⟨z_1, T_1, F_1⟩ := K_1.open_; have H_1 := Lib.hid K_1; clear K_1; obtain ⟨z_3, T_3, F_3⟩ := K_3.open_; have H_3 := Lib.hid K_3; clear K_3
  have hst : Below w3.heap.size w3 w4 := Below.trans (by repeat' (first | (with_reducible assumption) | (with_reducible exact Below.refl _ _) | (with_reducible refine Below.alloc ?_ ?_ _) | (with_reducible refine Bk.drewN_ ?_ _) | (with_reducible refine Below.drew ?_) | (with_reducible refine Below.setCell ?_ ?_ _) | go_size)) (hb4.mono (by go_size))
  have hR2 := HR2.out.next hst
  have hR3 := HR3.out.next hst
  clear HR2 HR3
  have HR2 := Lib.hid hR2; have HR3 := Lib.hid hR3
  clear hb4 hR2 hR3 hst
  go_wp2_with fail
  refine (c_codesV _ _ _ _ _ _ im.code _ (by omega) (HC.out.next (by repeat' (first | (with_reducible assumption) | (with_reducible exact Below.refl _ _) | (with_reducible refine Below.alloc ?_ ?_ _) | (with_reducible refine Bk.drewN_ ?_ _) | (with_reducible refine Below.drew ?_) | (with_reducible refine Below.setCell ?_ ?_ _) | go_size))) (HR2.out.next (by repeat' (first | (with_reducible assumption) | (with_reducible exact Below.refl _ _) | (with_reducible refine Below.alloc ?_ ?_ _) | (with_reducible refine Bk.drewN_ ?_ _) | (with_reducible refine Below.drew ?_) | (with_reducible refine Below.setCell ?_ ?_ _) | go_size)))).mono ?_
  rintro e w5 ⟨rfl, hb5⟩
  have hB5 : Below w.heap.size w w5 := Below.trans (by repeat' (first | (with_reducible assumption) | (with_reducible exact Below.refl _ _) | (with_reducible refine Below.alloc ?_ ?_ _) | (with_reducible refine Bk.drewN_ ?_ _) | (with_reducible refine Below.drew ?_) | (with_reducible refine Below.setCell ?_ ?_ _) | go_size)) (hb5.mono (by go_size))
  have K_1 : Blk w5 (w.heap.size) 30 #[.slice A n cap, .int .i64 im.mem, .int .i64 im.stacks] := Blk.next (by repeat' (first | with_reducible exact H_1.out | with_reducible exact K0_1 | (refine Blk.new' ?_ _ _; simp; done) | with_reducible refine Blk.alloc ?_ _ | with_reducible refine Blk.drewN ?_ _ | with_reducible refine Blk.drew ?_)) hb5; have K_3 : Blk w5 (w3.heap.size) 30 #[.slice A3 m3 c3, .int .i64 im.mem, .int .i64 im.stacks] := Blk.next (by repeat' (first | with_reducible exact H_3.out | with_reducible exact K0_3 | (refine Blk.new' ?_ _ _; simp; done) | with_reducible refine Blk.alloc ?_ _ | with_reducible refine Blk.drewN ?_ _ | with_reducible refine Blk.drew ?_)) hb5; (try clear H_1); (try clear T_1); (try clear z_1); (try clear F_1); (try clear H_3); (try clear T_3); (try clear z_3); (try clear F_3); obtain ⟨z_1, T_1, F_1⟩ := K_1.open_; have H_1 := Lib.hid K_1; clear K_1; obtain ⟨z_3, T_3, F_3⟩ := K_3.open_; have H_3 := Lib.hid K_3; clear K_3
  have hR3 := HR3.out.next hb5
  clear HR3
  have HR3 := Lib.hid hR3
  clear hb5 hR3 HR2
  have hm90 : m3 ≤ 90 := by have := HM3.out; have := HLE.out; have := HN.out; omega
  obtain ⟨L0, hL0⟩ : ∃ L0, (im.code.filter keepB).map (·.op) = L0 := ⟨_, rfl⟩
  obtain ⟨N0, hN0⟩ : ∃ N0, (im.code.filter fun x => decide (x.op = 32)).length = N0 := ⟨_, rfl⟩
  have hL1 := HKO.out.trans hL0
  have hN1 := HPO.out.trans hN0
  have HL0 := Lib.hid hL0; have HN0 := Lib.hid hN0; have HL1 := Lib.hid hL1; have HN1 := Lib.hid hN1
  clear hL0 hN0 hL1 hN1 HKO HPO
  go_wp2_with fail
  clear li lz ls lb i2 HN HT HA hB1 hB2 hB3 hB4 hgt HCK2 HCK HLE HM3 HCE
  go_region_with (first
    | (go_at_call 23; ((with_reducible refine (c_KeptV A3 m3 c3 (optCode im.code) _ HL1.out (by omega) (HR3.out.next (by repeat' (first | (with_reducible assumption) | (with_reducible exact Below.refl _ _) | (with_reducible refine Below.alloc ?_ ?_ _) | (with_reducible refine Bk.drewN_ ?_ _) | (with_reducible refine Below.drew ?_) | (with_reducible refine Below.setCell ?_ ?_ _) | go_size))) HWO.out).mono ?_); rintro e wa ⟨Aa, ma, ca, rfl, hcva, hba⟩; have hBa : Below w5.heap.size w5 wa := Below.next (by repeat' (first | (with_reducible assumption) | (with_reducible exact Below.refl _ _) | (with_reducible refine Below.alloc ?_ ?_ _) | (with_reducible refine Bk.drewN_ ?_ _) | (with_reducible refine Below.drew ?_) | (with_reducible refine Below.setCell ?_ ?_ _) | go_size)) hba; have hqa := hcva wa (Below.refl _ _); have HCVA := Lib.hid hcva; have hCa := Below.next hB5 hBa; have hZa := hBa.size; have hy1a : w3.heap.size < wa.heap.size := (by omega); have hy2a : w.heap.size < wa.heap.size := (by omega); obtain ⟨hca, hfa⟩ := bcell hBa; clear hba hcva))
    | (go_at_call 23; ((with_reducible refine (c_KeptV A n cap im.code _ HL0.out (by omega) (HC.out.next (by repeat' (first | (with_reducible assumption) | (with_reducible exact Below.refl _ _) | (with_reducible refine Below.alloc ?_ ?_ _) | (with_reducible refine Bk.drewN_ ?_ _) | (with_reducible refine Below.drew ?_) | (with_reducible refine Below.setCell ?_ ?_ _) | go_size))) hw).mono ?_); rintro e wb ⟨Ab, mb, cb, rfl, hcvb, hbb⟩; have hBb : Below w5.heap.size w5 wb := Below.next (by repeat' (first | (with_reducible assumption) | (with_reducible exact Below.refl _ _) | (with_reducible refine Below.alloc ?_ ?_ _) | (with_reducible refine Bk.drewN_ ?_ _) | (with_reducible refine Below.drew ?_) | (with_reducible refine Below.setCell ?_ ?_ _) | go_size)) hbb; have hqb := hcvb wb (Below.refl _ _); have hqab := HCVA.out wb hbb; have HCVB := Lib.hid hcvb; have hCb := Below.next hB5 hBb; have hZb := hBb.size; have hy1b : w3.heap.size < wb.heap.size := (by omega); have hy2b : w.heap.size < wb.heap.size := (by omega); obtain ⟨hcb, hfb⟩ := bcell hBb; clear hbb hcvb))
    | (go_at_call 24; ((with_reducible refine (c_ProcsV A3 m3 c3 { im with code := optCode im.code } _ HN1.out (by omega) (HR3.out.next (by repeat' (first | (with_reducible assumption) | (with_reducible exact Below.refl _ _) | (with_reducible refine Below.alloc ?_ ?_ _) | (with_reducible refine Bk.drewN_ ?_ _) | (with_reducible refine Below.drew ?_) | (with_reducible refine Below.setCell ?_ ?_ _) | go_size)))).mono ?_); rintro e wc ⟨Ac, cc, rfl, hbc⟩; have hBc : Below w5.heap.size w5 wc := Below.next (by repeat' (first | (with_reducible assumption) | (with_reducible exact Below.refl _ _) | (with_reducible refine Below.alloc ?_ ?_ _) | (with_reducible refine Bk.drewN_ ?_ _) | (with_reducible refine Below.drew ?_) | (with_reducible refine Below.setCell ?_ ?_ _) | go_size)) hbc; have hCc := Below.next hB5 hBc; have hZc := hBc.size; have hy1c : w3.heap.size < wc.heap.size := (by omega); have hy2c : w.heap.size < wc.heap.size := (by omega); obtain ⟨hcc, hfc⟩ := bcell hBc; clear hbc))
    | (go_at_call 24; ((with_reducible refine (c_ProcsV A n cap im _ HN0.out (by omega) (HC.out.next (by repeat' (first | (with_reducible assumption) | (with_reducible exact Below.refl _ _) | (with_reducible refine Below.alloc ?_ ?_ _) | (with_reducible refine Bk.drewN_ ?_ _) | (with_reducible refine Below.drew ?_) | (with_reducible refine Below.setCell ?_ ?_ _) | go_size)))).mono ?_); rintro e wd ⟨Ad, cd, rfl, hbd⟩; have hBd : Below w5.heap.size w5 wd := Below.next (by repeat' (first | (with_reducible assumption) | (with_reducible exact Below.refl _ _) | (with_reducible refine Below.alloc ?_ ?_ _) | (with_reducible refine Bk.drewN_ ?_ _) | (with_reducible refine Below.drew ?_) | (with_reducible refine Below.setCell ?_ ?_ _) | go_size)) hbd; have hCd := Below.next hB5 hBd; have hZd := hBd.size; have hy1d : w3.heap.size < wd.heap.size := (by omega); have hy2d : w.heap.size < wd.heap.size := (by omega); obtain ⟨hcd, hfd⟩ := bcell hBd; clear hbd)))
  all_goals
    go_wp2_with fail
    go_ret
    exact ⟨ret_bool (by simp), by repeat' (first | (with_reducible assumption) | (with_reducible exact Below.refl _ _) | (with_reducible refine Below.alloc ?_ ?_ _) | (with_reducible refine Bk.drewN_ ?_ _) | (with_reducible refine Below.drew ?_) | (with_reducible refine Below.setCell ?_ ?_ _) | go_size)⟩

theorem c_lawKeeps (A : Option Addr) (n cap : Nat) (im : Img) (w : World) (hA : A = none → n = 0 ∧ cap = 0) (hC : Rd w (· < w.heap.size) 5 A n (codeCells im.code)) (hw : CodeWf im.code) (hTab : TableAt w) :
    Calls Tryd.prog 7 #[.agg #[.slice A n cap, .int .i64 im.mem, .int .i64 im.stacks]] w fun e w' => e = .returned (.bool true) ∧ Below w.heap.size w w' := by
  by_cases h90 : n ≤ 90
  · by_cases h0 : im.check.2 = 0
    · exact Keeps.good A n cap im w _ h0 h90 hA hC hw hTab rfl
    · exact Keeps.bad A n cap im w _ h0 h90 hA hC hw hTab rfl
  · have hgt : decide ((90 : Int) < (n : Int)) = true := by simp; omega
    have HT := Lib.hid hTab; have HC := Lib.hid hC
    clear hTab hC hA
    go_enter Tryd.func7, Tryd.ntmps7
    go_wp2_with fail
    refine (c_awake _ (HT.out.next (by repeat' (first | (with_reducible assumption) | (with_reducible exact Below.refl _ _) | (with_reducible refine Below.alloc ?_ ?_ _) | (with_reducible refine Bk.drewN_ ?_ _) | (with_reducible refine Below.drew ?_) | (with_reducible refine Below.setCell ?_ ?_ _) | go_size)))).mono ?_
    rintro e w1 ⟨rfl, hb1⟩
    have hB1 : Below w.heap.size w w1 := Below.trans (by repeat' (first | (with_reducible assumption) | (with_reducible exact Below.refl _ _) | (with_reducible refine Below.alloc ?_ ?_ _) | (with_reducible refine Bk.drewN_ ?_ _) | (with_reducible refine Below.drew ?_) | (with_reducible refine Below.setCell ?_ ?_ _) | go_size)) (hb1.mono (by go_size))
    have K_1 : Blk w1 (w.heap.size) 30 #[.slice A n cap, .int .i64 im.mem, .int .i64 im.stacks] := Blk.next (by repeat' (first | with_reducible exact H_1.out | with_reducible exact K0_1 | (refine Blk.new' ?_ _ _; simp; done) | with_reducible refine Blk.alloc ?_ _ | with_reducible refine Blk.drewN ?_ _ | with_reducible refine Blk.drew ?_)) hb1; (try clear H_1); (try clear T_1); (try clear z_1); (try clear F_1); obtain ⟨z_1, T_1, F_1⟩ := K_1.open_; have H_1 := Lib.hid K_1; clear K_1
    clear hb1
    go_wp2_with fail
    refine (c_awake _ (HT.out.next (by repeat' (first | (with_reducible assumption) | (with_reducible exact Below.refl _ _) | (with_reducible refine Below.alloc ?_ ?_ _) | (with_reducible refine Bk.drewN_ ?_ _) | (with_reducible refine Below.drew ?_) | (with_reducible refine Below.setCell ?_ ?_ _) | go_size)))).mono ?_
    rintro e w2 ⟨rfl, hb2⟩
    have hB2 : Below w.heap.size w w2 := Below.trans (by repeat' (first | (with_reducible assumption) | (with_reducible exact Below.refl _ _) | (with_reducible refine Below.alloc ?_ ?_ _) | (with_reducible refine Bk.drewN_ ?_ _) | (with_reducible refine Below.drew ?_) | (with_reducible refine Below.setCell ?_ ?_ _) | go_size)) (hb2.mono (by go_size))
    go_wp2_with fail
    go_ret
    exact ⟨rfl, hB2⟩
end Go.Proofs.YtfobnkgfbdmakaaDoor
