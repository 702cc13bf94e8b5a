/- The walk of the law PeepholeRuns. -/
import Derived.Test.YteenmpjjaheggaaDoorOc
import Derived.Test.YteenmpjjaheggaaDoorSi
import Derived.Test.YteenmpjjaheggaaDoorVmG
import Derived.Test.YteenmpjjaheggaaDoorZVmD
import Derived.Test.YteenmpjjaheggaaDoorUm
import Derived.Test.YteenmpjjaheggaaDoorCpV
import Derived.Test.YteenmpjjaheggaaDoorCpX
set_option linter.unusedVariables false
set_option linter.unusedSimpArgs false
set_option maxRecDepth 100000
set_option maxHeartbeats 16000000
namespace Go.Proofs.YteenmpjjaheggaaDoor
open Go.RowKit Bk
/-- fits of a machine of any number of stacks, where the image's number is small. -/
theorem c_fitsW {w : World} {D : Nat → Prop} {b off : Nat} {M : Mach} {vm vs vc vi vo : Value} {sv : List Value} (h : MRd w D b off M vm vs vc vi vo sv) (A : Option Addr) (n cap : Nat) (im : Img) (hn : n = im.code.length) (hn6 : n ≤ 65536) (hst : im.stacks ≤ 16384) (hcl : M.calls.length ≤ 20000000000000) {v : Bool} (hv : fitsB im M = v) :
    Calls Tryd.prog 53 #[.agg #[.slice A n cap, .int .i64 im.mem, .int .i64 im.stacks], .pointer (some ⟨b, off, none⟩)] w fun e w' => e = .returned (.bool v) ∧ Below w.heap.size w w' := by
  by_cases hs : (M.s.length : Int) = im.stacks
  · exact c_fitsG h A n cap im hn hn6 (by omega) hcl hv
  obtain rfl : false = v := fitsB_no hv (fun g => hs g.2.2.2.1)
  have u1 : ((M.s.length : Int) != im.stacks) = true := by simpa using hs
  by_cases hd : M.dir = 1
  · by_cases t0 : M.pc < 0
    · exact fg_10 h A n cap im (.inl hd) (by simpa using t0)
    by_cases t1 : (n : Int) < M.pc
    · exact fg_11 h A n cap im (.inl hd) (by simpa using t0) (by simpa using t1)
    by_cases u0 : (M.m.length : Int) = im.mem
    · exact fg_31 h A n cap im (.inl hd) (by simpa using t0) (by simpa using t1) (by simpa using u0) u1
    · exact fg_30 h A n cap im (.inl hd) (by simpa using t0) (by simpa using t1) (by simpa using u0)
  by_cases hd2 : M.dir = -1
  · by_cases t0 : M.pc < 0
    · exact fg_10 h A n cap im (.inr hd2) (by simpa using t0)
    by_cases t1 : (n : Int) < M.pc
    · exact fg_11 h A n cap im (.inr hd2) (by simpa using t0) (by simpa using t1)
    by_cases u0 : (M.m.length : Int) = im.mem
    · exact fg_31 h A n cap im (.inr hd2) (by simpa using t0) (by simpa using t1) (by simpa using u0) u1
    · exact fg_30 h A n cap im (.inr hd2) (by simpa using t0) (by simpa using t1) (by simpa using u0)
  · exact fg_dir h A n cap im (by simpa using hd) (by simpa using hd2)
/-- cpu.Fits, where the image is valid. -/
theorem c_FitsW {w : World} {D : Nat → Prop} {b off : Nat} {M : Mach} {vm vs vc vi vo : Value} {sv : List Value} (h : MRd w D b off M vm vs vc vi vo sv) (A : Option Addr) (n cap : Nat) (im : Img) (hn : n = im.code.length) (hn6 : n ≤ 65536) (hst : im.stacks ≤ 16384) (hcl : M.calls.length ≤ 20000000000000) (hC : Rd w (· < w.heap.size) 5 A n (codeCells im.code)) (hw : CodeWf im.code) (hTab : TableAt w) (hva : im.valid = true) {v : Bool} (hv : fitsB im M = v) :
    Calls Tryd.prog 26 #[.agg #[.slice A n cap, .int .i64 im.mem, .int .i64 im.stacks], .pointer (some ⟨b, off, none⟩)] w fun e w' => e = .returned (.bool v) ∧ Below w.heap.size w w' := by
  have HM := Lib.hid h; have HC := Lib.hid hC; have HT := Lib.hid hTab; have HVA := Lib.hid hva; have HV := Lib.hid hv; have HN := Lib.hid hn
  clear h hC hTab hva hv hn
  go_enter Tryd.func26, Tryd.ntmps26
  go_wp2_with fail
  refine calls_nameY ?_
  intro w1 hw1
  have hB_w1 : Below w.heap.size w w1 := by rw [hw1]; exact (by go_grown)
  have K_1 : Blk w1 w.heap.size 32 #[.slice A n cap, .int .i64 im.mem, .int .i64 im.stacks] := by rw [hw1]; exact (by repeat' (first | assumption | exact Blk.new' (by simp) _ _ | apply Blk.alloc | apply Blk.drew))
  clear hw1
  obtain ⟨z_1, T_1, F_1⟩ := K_1.open_; have H_1 := Lib.hid K_1; clear K_1
  refine (c_imValid' A n cap im HVA.out _ (Rd.upL HC.out hB_w1) hw (HT.out.next hB_w1)).mono ?_
  rintro e w2 ⟨rfl, hb2⟩
  have hB_w2 := hB_w1.next hb2
  have K_1 := H_1.out.next hb2; (try clear H_1); (try clear T_1); (try clear z_1); (try clear F_1); obtain ⟨z_1, T_1, F_1⟩ := K_1.open_; have H_1 := Lib.hid K_1; clear K_1
  clear hb2
  go_wp2_with fail
  refine (c_fitsW (HM.out.next hB_w2) A n cap im HN.out hn6 hst hcl HV.out).mono ?_
  rintro e w3 ⟨rfl, hb3⟩
  have hB_w3 := hB_w2.next hb3
  clear hb3
  go_wp2_with fail
  go_ret
  exact ⟨rfl, hB_w3⟩
theorem c_lawPRuns (A : Option Addr) (n cap : Nat) (im : Img) (M : Mach) (vm vs vc vi vo : Value) (sv : List Value) (w : World) (hC : Rd w (· < w.heap.size) 5 A n (codeCells im.code)) (hw : CodeWf im.code) (hL : MLs w (· < w.heap.size) M vm vs vc vi vo sv) (hwf : MWf M) (hl : ∀ l ∈ M.s, l.length ≤ 17592186043904) (hTab : TableAt w) :
    Calls Tryd.prog 5 #[.agg #[.slice A n cap, .int .i64 im.mem, .int .i64 im.stacks], .agg (mcells M vm vs vc vi vo).toArray] w fun e w' => e = .returned (.bool true) ∧ Below w.heap.size w w' := by
  have hn : n = im.code.length := by have := hC.1; rw [codeCells_length] at this; omega
  obtain ⟨v, hv⟩ : ∃ v, (decide (n ≤ 90) && im.valid) = v := ⟨_, rfl⟩
  have HN := Lib.hid hn; have HT := Lib.hid hTab; have HC := Lib.hid hC; have HV := Lib.hid hv; have HL := Lib.hid hL; have HLL := Lib.hid hl; have HWF := Lib.hid hwf
  clear hn hTab hC hv hL hl hwf
  go_enter Tryd.func5, Tryd.ntmps5
  go_upto_region 1 with fail
  refine wp_nameY ?_
  intro w1 hw1
  have hB_w1 : Below w.heap.size w w1 := by rw [hw1]; exact (by go_grown)
  have K_1 : Blk w1 w.heap.size 32 #[.slice A n cap, .int .i64 im.mem, .int .i64 im.stacks] := by rw [hw1]; exact (by repeat' (first | assumption | exact Blk.new' (by simp) _ _ | apply Blk.alloc | apply Blk.drew))
  have KM : Blk w1 (w.heap.size + 1) 27 (mcells M vm vs vc vi vo).toArray := by rw [hw1]; exact Blk.new' (by simp) _ _
  have HKM := Lib.hid KM
  have zz : w1.heap.size = w.heap.size + 2 := by rw [hw1]; simp
  clear hw1 KM
  obtain ⟨z_1, T_1, F_1⟩ := K_1.open_; have H_1 := Lib.hid K_1; clear K_1
  go_wp2_with fail
  refine (c_awake _ (HT.out.next hB_w1)).mono ?_
  rintro e w2 ⟨rfl, hb2⟩
  have hB_w2 := hB_w1.next hb2
  replace HKM := Lib.hid (HKM.out.next hb2)
  have K_1 := H_1.out.next hb2; (try clear H_1); (try clear T_1); (try clear z_1); (try clear F_1); obtain ⟨z_1, T_1, F_1⟩ := K_1.open_; have H_1 := Lib.hid K_1; clear K_1
  have z2 := hb2.size
  clear hb2
  go_wp2_with fail
  refine (c_smallV _ _ _ im _ HV.out (Rd.upL HC.out hB_w2) hw (HT.out.next hB_w2)).mono ?_
  rintro e w3 ⟨rfl, hb3⟩
  have hB_w3 := hB_w2.next hb3
  replace HKM := Lib.hid (HKM.out.next hb3)
  have K_1 := H_1.out.next hb3; (try clear H_1); (try clear T_1); (try clear z_1); (try clear F_1); obtain ⟨z_1, T_1, F_1⟩ := K_1.open_; have H_1 := Lib.hid K_1; clear K_1
  have z3 := hb3.size; have z23 := hB_w2.size
  clear hb3
  cases v with
  | false =>
    go_wp2_with fail
    refine (c_awake _ (HT.out.next hB_w3)).mono ?_
    rintro e w4 ⟨rfl, hb4⟩
    have hB_w4 := hB_w3.next hb4
    go_wp2_with fail
    go_ret
    exact ⟨rfl, hB_w4⟩
  | true =>
    obtain ⟨h90, hck⟩ := small_check HV.out
    have hz := (check_fault hck).1
    unfold Img.sized at hz
    simp only [Bool.and_eq_true, decide_eq_true_eq] at hz
    have hst : im.stacks ≤ 16384 := by omega
    have hck2 : ({ im with code := optCode im.code } : Img).check.2 = 0 := opt_valid hck hw
    have hw2 : CodeWf (optCode im.code) := optCode_wf hw (by have := HN.out; omega)
    have hopt : optimize ⟨im.code, im.mem, im.stacks⟩ = (⟨optCode im.code, im.mem, im.stacks⟩, 0) := by unfold optimize; rw [if_pos (by exact hck)]
    have HCK := Lib.hid hck; have HCK2 := Lib.hid hck2; have HW2 := Lib.hid hw2; have HOPT := Lib.hid hopt
    clear hck hck2 hw2 hopt hz
    go_wp2_with fail
    refine (c_OptimizeL A n cap im.code (optCode im.code) im.mem im.stacks im.mem im.stacks 0 _ HOPT.out (Rd.upL HC.out hB_w3) hw (HT.out.next hB_w3)).mono ?_
    rintro e w4 ⟨A3, m3, c3, rfl, hR3, hb4⟩
    have hB_w4 := hB_w3.next hb4
    replace HKM := Lib.hid (HKM.out.next hb4)
    have K_1 := H_1.out.next hb4; (try clear H_1); (try clear T_1); (try clear z_1); (try clear F_1); obtain ⟨z_1, T_1, F_1⟩ := K_1.open_; have H_1 := Lib.hid K_1; clear K_1
    have z4 := hb4.size
    have HR4 := Lib.hid hR3
    clear hb4 hR3
    go_upto_region 4 with fail
    refine wp_nameY ?_
    intro w5 hw5
    have hb5 : Below w4.heap.size w4 w5 := by rw [hw5]; exact (by go_grown)
    have K5 : Blk w5 w4.heap.size 32 #[.slice A3 m3 c3, .int .i64 im.mem, .int .i64 im.stacks] := by rw [hw5]; exact (by repeat' (first | assumption | exact Blk.new' (by simp) _ _ | apply Blk.alloc | apply Blk.drew))
    have hB_w5 := hB_w4.next hb5
    replace HKM := Lib.hid (HKM.out.next hb5)
    have K_1 := H_1.out.next hb5; (try clear H_1); (try clear T_1); (try clear z_1); (try clear F_1); obtain ⟨z_1, T_1, F_1⟩ := K_1.open_; have H_1 := Lib.hid K_1; clear K_1
    have HR5 := Lib.hid (HR4.out.keep (fun b o hd => hb5.cell (p := ⟨b, o, none⟩) hd.2))
    have HRc := Lib.hid ((HL.out.next hB_w5).at_ HKM.out)
    have e0 : w5.cell? ⟨w.heap.size + 1, 0, none⟩ = some (.int .i64 M.pc) := HRc.out.c0
    have e1 : w5.cell? ⟨w.heap.size + 1, 1, none⟩ = some (.int .i64 M.dir) := HRc.out.c1
    have e20 : w5.cell? ⟨w.heap.size + 1, 20, none⟩ = some vc := HRc.out.c20
    have f0 := HKM.out.frozen 0; have f1 := HKM.out.frozen 1; have f20 := HKM.out.frozen 20
    have z5 := hb5.size; have z5' := K5.lt
    have HK5 := Lib.hid K5
    clear hw5 hb5 K5 HRc
    go_upto_region 5 with fail
    refine wp_nameY ?_
    intro w6 hw6
    have KM6 : Blk w6 (w.heap.size + 1) 27 (mcells (m0 M) vm vs (.slice none 0 0) vi vo).toArray := by rw [hw6]; exact m0_blk HKM.out HL.out.rl
    have hf6 : Fr (· = w.heap.size + 1) w5 w6 := by rw [hw6]; exact Fr.set (O := (· = w.heap.size + 1)) (Fr.set (O := (· = w.heap.size + 1)) (Fr.set (O := (· = w.heap.size + 1)) (p := ⟨w.heap.size + 1, 0, none⟩) (Fr.refl _ _) rfl _) (p := ⟨w.heap.size + 1, 1, none⟩) rfl _) (p := ⟨w.heap.size + 1, 20, none⟩) rfl _
    have hB_w6 : Below w.heap.size w w6 := hB_w5.trans (hf6.below (B := w.heap.size) hB_w5.size (fun k hk => by omega))
    have K_1 := hf6.blk H_1.out (by omega)
    have HK6 := Lib.hid (hf6.blk HK5.out (by omega))
    have HR6 := Lib.hid (HR5.out.keep (fun b o hd => hf6.cell (by have := hd.2; omega) (by have := hd.1; omega) o))
    have z6 := hf6.size
    have HM := Lib.hid ((HL.out.next hB_w6).m0.at_ KM6)
    clear hw6 hf6 KM6 e0 e1 e20 f0 f1 f20 HKM HK5 HR4 HR5 T_1 z_1 F_1 H_1
    obtain ⟨z_1, T_1, F_1⟩ := K_1.open_; have H_1 := Lib.hid K_1; clear K_1
    obtain ⟨u, hu⟩ : ∃ u, fitsB im (m0 M) = u := ⟨_, rfl⟩
    have HU := Lib.hid hu; clear hu
    have hva : im.valid = true := by unfold Img.valid; exact decide_eq_true HCK.out
    have HVA := Lib.hid hva; clear hva
    go_wp2_with fail
    refine (c_FitsW HM.out A n cap im HN.out (by omega) hst (by show ([] : List (Int × Bool)).length ≤ _; simp) (Rd.upL HC.out hB_w6) hw (HT.out.next hB_w6) HVA.out HU.out).mono ?_
    rintro e w7 ⟨rfl, hb7⟩
    have hB_w7 := hB_w6.next hb7
    replace HM := Lib.hid (HM.out.next hb7)
    have HK7 := Lib.hid (HK6.out.next hb7)
    have K_1 := H_1.out.next hb7; (try clear H_1); (try clear T_1); (try clear z_1); (try clear F_1); obtain ⟨z_1, T_1, F_1⟩ := K_1.open_; have H_1 := Lib.hid K_1; clear K_1
    have HR7 := Lib.hid (HR6.out.keep (fun b o hd => hb7.cell (p := ⟨b, o, none⟩) (by have h := hd.2; show b < w6.heap.size; omega)))
    have z7 := hb7.size
    clear hb7 HK6 HR6
    rcases u with _ | _
    · go_wp2_with fail
      go_ret
      exact ⟨rfl, hB_w7⟩
    have hfit : Fit im (m0 M) := Fit.of HWF.out.m0 HU.out
    have hfit2 : Fit ({ im with code := optCode im.code } : Img) (m0 M) := ⟨hfit.ok, .inl rfl, by show (0 : Int) ≤ 0; decide, by show (0 : Int) ≤ _; omega, hfit.ml, hfit.sn, hfit.cl, fun x hx => by cases hx⟩
    have hsb : SB 17592186043904 (m0 M) := HLL.out
    have hbd : MBd (m0 M) := MBd.of HCK.out hfit hsb (by omega)
    have hms : (m0 M).s.length ≤ 1000000 := by have := hfit.sn; omega
    have HVE : Hid (VEnv im (m0 M) 3000) := Lib.hid (VEnv.of HCK.out hw hfit hsb (by omega))
    have HVE2 : Hid (VEnv ({ im with code := optCode im.code } : Img) (m0 M) 3000) := Lib.hid (VEnv.of HCK2.out HW2.out hfit2 hsb (by omega))
    have HFIT := Lib.hid hfit; have HFIT2 := Lib.hid hfit2; have HBD := Lib.hid hbd; have HMS := Lib.hid hms
    clear hfit hfit2 hsb hbd hms
    go_wp2_with (refine wpList_loadG 27 rfl rfl rfl (load_mach HM.out) ?_; simp only [Act.put, Bk.PU])
    refine (show Calls Tryd.prog _ #[_, _, .int .i64 3000] _ _ from c_VNewOk A n cap im (m0 M) vm vs (.slice none 0 0) vi vo sv w7 (Rd.upL HC.out hB_w7) hw (MLs.up HL.out.m0 hB_w7) HMS.out (by show ([] : List (Int × Bool)).length ≤ _; simp) (HT.out.next hB_w7) HCK.out HFIT.out HBD.out 3000 (by decide)).mono ?_
    rintro e w8 ⟨P, A1, n1, cap1, rfl, hV, hA, hO, hfx, hR, hb8⟩
    have hB_w8 := hB_w7.next hb8
    replace HM := Lib.hid (HM.out.next hb8)
    have HK8 := Lib.hid (HK7.out.next hb8)
    have HR8 := Lib.hid (HR7.out.keep (fun b o hd => hb8.cell (p := ⟨b, o, none⟩) (by have h := hd.2; show b < w7.heap.size; omega)))
    have HV8 := Lib.hid hV; have HA8 := Lib.hid hA; have HO := Lib.hid hO; have HFX := Lib.hid hfx; have HP8 := Lib.hid hR
    have z8 := hb8.size
    clear hV hA hO hfx hR hb8 HK7 HR7 T_1 z_1 F_1 H_1
    obtain ⟨z_5, T_5, F_5⟩ := HK8.out.open_
    go_wp2_with (refine wpList_loadG 27 rfl rfl rfl (load_mach HM.out) ?_; simp only [Act.put, Bk.PU])
    refine (show Calls Tryd.prog _ #[_, _, .int .i64 3000] _ _ from c_VNewOk A3 m3 c3 ({ im with code := optCode im.code } : Img) (m0 M) vm vs (.slice none 0 0) vi vo sv w8 ((HR8.out.mono (fun k hk => by have := hk.2; omega))) HW2.out (MLs.up HL.out.m0 hB_w8) HMS.out (by show ([] : List (Int × Bool)).length ≤ _; simp) (HT.out.next hB_w8) HCK2.out HFIT2.out HBD.out 3000 (by decide)).mono ?_
    rintro e w9 ⟨Q, A2, n2, cap2, rfl, hV, hA, hQO, hQF, hR, hb9⟩
    have hB_w9 := hB_w8.next hb9
    have z9 := hb9.size
    have HW9 := Lib.hid hV; have HB9 := Lib.hid hA; have HS9 := Lib.hid hR; have HQF := Lib.hid hQF
    obtain ⟨P2, hP2⟩ : ∃ P2 : Pl, P2 = { P with fx := fun k => k < w7.heap.size ∨ (w8.heap.size ≤ k ∧ k < w9.heap.size) } := ⟨_, rfl⟩
    have HA9 : Hid (VAt w9 P2 im.code (m0 M) 0 3000) := Lib.hid (by rw [hP2]; exact HA8.out.foreign hb9 (fun k hk => hk.elim (fun h => .inl (by rw [HFX.out]; exact h)) fun h => .inr h.1) (fun k hk => hk.elim (fun h => by omega) fun h => h.2))
    have HV9 : Hid (VFx w9 P2 A1 n1 cap1 im) := Lib.hid (by rw [hP2]; exact (HV8.out.next hb9).pl _)
    have hPO2 : ∀ k, P2.O k → w7.heap.size ≤ k ∧ k < w8.heap.size := fun k hk => HO.out k (by rw [hP2] at hk; exact hk)
    have hbp : P.b = P2.b := by rw [hP2]
    have HP9 : Hid (Rd w9 (fun k => w7.heap.size ≤ k ∧ k < w8.heap.size ∧ ¬ P2.O k) 5 A1 n1 (codeCells im.code)) := Lib.hid (by rw [hP2]; exact HP8.out.keep (fun b o hd => hb9.cell (p := ⟨b, o, none⟩) hd.2.1))
    have HPX : Hid (∀ k, w8.heap.size ≤ k → k < w9.heap.size → P2.fx k) := Lib.hid (fun k h1 h2 => by rw [hP2]; exact .inr ⟨h1, h2⟩)
    rw [hbp]
    have hgt : 0 < w.heap.size := HT.out.lt
    have HPQ : Hid (∀ k, P2.O k → k < w8.heap.size ∧ ¬ Q.O k ∧ Q.fx k ∧ k ≠ 0) := Lib.hid (fun k hk => ⟨(hPO2 k hk).2, fun h => by have := (hQO k h).1; have := (hPO2 k hk).2; omega, by rw [HQF.out]; exact (hPO2 k hk).2, by have := (hPO2 k hk).1; omega⟩)
    have HQP : Hid (∀ k, Q.O k → w8.heap.size ≤ k ∧ ¬ P2.O k ∧ P2.fx k ∧ k ≠ 0) := Lib.hid (fun k hk => ⟨(hQO k hk).1, fun h => by have := (hQO k hk).1; have := (hPO2 k h).2; omega, HPX.out k (hQO k hk).1 (hQO k hk).2, by have := (hQO k hk).1; omega⟩)
    have BEL : Hid (∀ wz, Fr (fun k => w7.heap.size ≤ k) w9 wz → Below w.heap.size w wz) := Lib.hid fun wz hf => hB_w9.trans (hf.below (B := w.heap.size) (by have := hB_w9.size; omega) (fun k hk => by omega))
    have HOP : Hid (∀ k, P2.O k → w7.heap.size ≤ k) := Lib.hid fun k hk => (hPO2 k hk).1
    have HOQ : Hid (∀ k, Q.O k → w7.heap.size ≤ k) := Lib.hid fun k hk => by have := (hQO k hk).1; omega
    obtain ⟨N, hN⟩ : ∃ N, runV im.code (m0 M) 3000 0 = N := ⟨_, rfl⟩
    have hNx : N ≤ 3000 := by rw [← hN]; exact runV_le _ _ _ _
    obtain ⟨ee, hee⟩ : ∃ ee, endE im.code (m0 M) (3000 - N) (0 + N) = ee := ⟨_, rfl⟩
    have hs := c_VRun (j := 0) (f := 3000) HV9.out HVE.out (by omega) (by omega) (by omega) HA9.out
    rw [hN, hee] at hs
    have HSS := Lib.hid hs
    have HN_ := Lib.hid hN; have HEE := Lib.hid hee
    clear hs hN hee hP2 hbp hPO2 hQO hQF hV hA hR hb9 hgt T_5 z_5 F_5 HA8 HV8 HP8 HFX HO
    go_wp2_with fail
    refine HSS.out.mono ?_
    rintro e w10 ⟨rfl, hA10, hf10⟩
    have HV10 := Lib.hid (HV9.out.fr hf10); have HA10 := Lib.hid hA10
    have HB10 := Lib.hid (HB9.out.other hf10 (fun h => (HPQ.out _ h).2.1 (.inl rfl)) (fun h => (HPQ.out _ h).2.1 (.inr (.inl rfl))) (fun h => (HPQ.out _ h).2.1 (.inr (.inr rfl))) (fun k hk => (HPQ.out k hk).2.2.1))
    have HW10 := Lib.hid (HW9.out.other HS9.out (Nat.le_refl _) hf10 (fun k h1 h2 h => by have := (HPQ.out k h).1; omega) (fun h => (HPQ.out _ h).2.2.2 rfl))
    have HP10 := Lib.hid (Rd.frR HP9.out z9 hf10 (fun k h1 h2 h3 => h3))
    have HF10 := Lib.hid ((Fr.refl (fun k => w7.heap.size ≤ k) w9).trans (hf10.mono HOP.out))
    have z10 := hf10.size
    clear hA10 hf10 HSS HA9 HV9 HP9 HB9 HW9
    by_cases he : ee = 0
    · subst he
      obtain ⟨k, hkN, hrk, hek, heq⟩ := opt_runs HCK.out hw HFIT.out rfl rfl HN_.out HEE.out
      have hs := c_VRun (j := 0) (f := 3000) HW10.out HVE2.out (by omega) (by omega) (by omega) HB10.out
      rw [show runV ({ im with code := optCode im.code } : Img).code (m0 M) 3000 0 = k from hrk, show endE ({ im with code := optCode im.code } : Img).code (m0 M) (3000 - k) (0 + k) = 0 from hek] at hs
      have HSS := Lib.hid hs; have HEQ := Lib.hid heq
      have q1 : (k : Int) ≤ (N : Int) := by omega
      have hk3 : 0 + k ≤ 3000 := by omega
      clear hs hrk hek heq
      go_wp2_with fail
      refine HSS.out.mono ?_
      rintro e w11 ⟨rfl, hB11, hf11⟩
      have HB11 := Lib.hid hB11
      have HW11 := Lib.hid (HW10.out.fr hf11)
      have HV11 := Lib.hid (HV10.out.other HP10.out (by omega) hf11 (fun k h1 h2 h => by have := (HQP.out k h).1; omega) (fun h => (HQP.out _ h).2.2.2 rfl))
      have HA11 := Lib.hid (HA10.out.other hf11 (fun h => (HQP.out _ h).2.1 (.inl rfl)) (fun h => (HQP.out _ h).2.1 (.inr (.inl rfl))) (fun h => (HQP.out _ h).2.1 (.inr (.inr rfl))) (fun k hk => (HQP.out k hk).2.2.1))
      have HF11 := Lib.hid (HF10.out.trans (hf11.mono HOQ.out))
      have z11 := hf11.size
      clear hB11 hf11 HSS HA10 HV10 HB10 HW10 HP10
      go_wp2_with fail
      refine (c_VMachine HV11.out HVE.out (j := 0 + N) (by omega) HA11.out).mono ?_
      rintro e w12 ⟨vm9, vs9, vc9, vi9, vo9, sv9, rfl, hO9, hb12⟩
      have HO9 := Lib.hid hO9
      have HW12 := Lib.hid (HW11.out.next hb12)
      have HB12 : Hid (VAt w12 Q ({ im with code := optCode im.code } : Img).code (m0 M) (0 + k) (3000 - k)) := Lib.hid (HB11.out.next hb12)
      have HF12 := Lib.hid (HF11.out.next hb12)
      have z12 := hb12.size
      clear hO9 hb12 HV11 HA11 HW11 HB11
      go_wp2_with fail
      refine (c_VMachine HW12.out HVE2.out (j := 0 + k) hk3 HB12.out).mono ?_
      rintro e w13 ⟨vm10, vs10, vc10, vi10, vo10, sv10, rfl, hO10, hb13⟩
      have HO10 := Lib.hid hO10
      have HO9' := Lib.hid (HO9.out.next hb13)
      have HF13 := Lib.hid (HF12.out.next hb13)
      have z13 := hb13.size
      obtain ⟨Mp, hMp⟩ : ∃ Mp, tr im.code (m0 M) (0 + N) = Mp := ⟨_, rfl⟩
      obtain ⟨Mq, hMq⟩ : ∃ Mq, tr ({ im with code := optCode im.code } : Img).code (m0 M) (0 + k) = Mq := ⟨_, rfl⟩
      have HBP : Hid (MBd Mp) := Lib.hid (hMp ▸ HVE.out.bd (0 + N) (by omega))
      have hpq : ({ Mq with pc := Mp.pc } : Mach) = Mp := by rw [← hMp, ← hMq]; exact HEQ.out
      rw [hMp] at HO9'
      rw [hMq] at HO10
      have hMp' : tr im.code (m0 M) N = Mp := by rw [← hMp, Nat.zero_add]
      have hMq' : tr ({ im with code := optCode im.code } : Img).code (m0 M) k = Mq := by rw [← hMq, Nat.zero_add]
      have HPQM := Lib.hid hpq
      have one : ∀ {wz : World} {B : Nat} {X : Mach} {a b c d e : Value} {s : List Value}, MOwn wz B X a b c d e s → ∀ v ∈ mcells X a b c d e, v.oneCell' = true := fun h => by
        have h' := h.mls
        obtain ⟨_, _, rfl, _⟩ := h'.m; obtain ⟨_, _, rfl, _⟩ := h'.s; obtain ⟨_, _, rfl, _⟩ := h'.l.2.1; obtain ⟨_, _, rfl, _⟩ := h'.l.2.2.1; obtain ⟨_, _, rfl, _⟩ := h'.l.2.2.2
        exact mc_one rfl rfl rfl rfl rfl
      have HONE1 := Lib.hid (one HO9'.out); have HONE2 := Lib.hid (one HO10.out)
      have HLEN1 := Lib.hid (mc_len Mp vm9 vs9 vc9 vi9 vo9 HO9'.out.1); have HLEN2 := Lib.hid (mc_len Mq vm10 vs10 vc10 vi10 vo10 HO10.out.1)
      clear hO10 hb13 HW12 HB12 HO9 hpq one HEQ
      simp only [hMp, hMq, hMp', hMq']
      clear hMp hMq hMp' hMq'
      have HZ1 : Hid (Blk ((w13.alloc (.cells #[.int .i64 0, .int .i64 0, .int .i64 0, .int .i64 0, .int .i64 0, .int .i64 0, .int .i64 0, .int .i64 0, .int .i64 0, .int .i64 0, .int .i64 0, .int .i64 0, .int .i64 0, .int .i64 0, .int .i64 0, .int .i64 0, .int .i64 0, .int .i64 0, .slice none 0 0, .slice none 0 0, .slice none 0 0, .int .i64 0, .int .i64 0, .slice none 0 0, .slice none 0 0] 27)).alloc (.cells #[.int .i64 0, .int .i64 0, .int .i64 0, .int .i64 0, .int .i64 0, .int .i64 0, .int .i64 0, .int .i64 0, .int .i64 0, .int .i64 0, .int .i64 0, .int .i64 0, .int .i64 0, .int .i64 0, .int .i64 0, .int .i64 0, .int .i64 0, .int .i64 0, .slice none 0 0, .slice none 0 0, .slice none 0 0, .int .i64 0, .int .i64 0, .slice none 0 0, .slice none 0 0] 27)) w13.heap.size 27 #[.int .i64 0, .int .i64 0, .int .i64 0, .int .i64 0, .int .i64 0, .int .i64 0, .int .i64 0, .int .i64 0, .int .i64 0, .int .i64 0, .int .i64 0, .int .i64 0, .int .i64 0, .int .i64 0, .int .i64 0, .int .i64 0, .int .i64 0, .int .i64 0, .slice none 0 0, .slice none 0 0, .slice none 0 0, .int .i64 0, .int .i64 0, .slice none 0 0, .slice none 0 0]) := Lib.hid ((Blk.new _ _ _).alloc _)
      have HZ2 : Hid (Blk (((w13.alloc (.cells #[.int .i64 0, .int .i64 0, .int .i64 0, .int .i64 0, .int .i64 0, .int .i64 0, .int .i64 0, .int .i64 0, .int .i64 0, .int .i64 0, .int .i64 0, .int .i64 0, .int .i64 0, .int .i64 0, .int .i64 0, .int .i64 0, .int .i64 0, .int .i64 0, .slice none 0 0, .slice none 0 0, .slice none 0 0, .int .i64 0, .int .i64 0, .slice none 0 0, .slice none 0 0] 27)).alloc (.cells #[.int .i64 0, .int .i64 0, .int .i64 0, .int .i64 0, .int .i64 0, .int .i64 0, .int .i64 0, .int .i64 0, .int .i64 0, .int .i64 0, .int .i64 0, .int .i64 0, .int .i64 0, .int .i64 0, .int .i64 0, .int .i64 0, .int .i64 0, .int .i64 0, .slice none 0 0, .slice none 0 0, .slice none 0 0, .int .i64 0, .int .i64 0, .slice none 0 0, .slice none 0 0] 27)).setRow w13.heap.size (mcells Mp vm9 vs9 vc9 vi9 vo9).toArray) (w13.heap.size + 1) 27 #[.int .i64 0, .int .i64 0, .int .i64 0, .int .i64 0, .int .i64 0, .int .i64 0, .int .i64 0, .int .i64 0, .int .i64 0, .int .i64 0, .int .i64 0, .int .i64 0, .int .i64 0, .int .i64 0, .int .i64 0, .int .i64 0, .int .i64 0, .int .i64 0, .slice none 0 0, .slice none 0 0, .slice none 0 0, .int .i64 0, .int .i64 0, .slice none 0 0, .slice none 0 0]) := Lib.hid ((setRow_other _ _ _ _ (by omega)).trans (Blk.new' (by simp) _ _))
      go_upto_region 16 with (first | (refine wpList_store_row rfl 27 (.tmp 15) (.tmp 73) rfl w13.heap.size (mcells Mp vm9 vs9 vc9 vi9 vo9).toArray rfl rfl 27 #[.int .i64 0, .int .i64 0, .int .i64 0, .int .i64 0, .int .i64 0, .int .i64 0, .int .i64 0, .int .i64 0, .int .i64 0, .int .i64 0, .int .i64 0, .int .i64 0, .int .i64 0, .int .i64 0, .int .i64 0, .int .i64 0, .int .i64 0, .int .i64 0, .slice none 0 0, .slice none 0 0, .slice none 0 0, .int .i64 0, .int .i64 0, .slice none 0 0, .slice none 0 0] HZ1.out (by rw [info_mach25]; simp [HLEN1.out]) (by simp [HLEN1.out]) (all_oneCell_toArray HONE1.out) ?_; simp only [Act.put, Bk.PU]) | (refine wpList_store_row rfl 27 (.tmp 16) (.tmp 75) rfl (w13.heap.size + 1) (mcells Mq vm10 vs10 vc10 vi10 vo10).toArray rfl rfl 27 #[.int .i64 0, .int .i64 0, .int .i64 0, .int .i64 0, .int .i64 0, .int .i64 0, .int .i64 0, .int .i64 0, .int .i64 0, .int .i64 0, .int .i64 0, .int .i64 0, .int .i64 0, .int .i64 0, .int .i64 0, .int .i64 0, .int .i64 0, .int .i64 0, .slice none 0 0, .slice none 0 0, .slice none 0 0, .int .i64 0, .int .i64 0, .slice none 0 0, .slice none 0 0] HZ2.out (by rw [info_mach25]; simp [HLEN2.out]) (by simp [HLEN2.out]) (all_oneCell_toArray HONE2.out) ?_; simp only [Act.put, Bk.PU]))
      clear HZ1 HZ2
      refine wp_nameY ?_
      intro w14 hw14
      have KP : Blk w14 w13.heap.size 27 (mcells Mp vm9 vs9 vc9 vi9 vo9).toArray := by rw [hw14]; exact (setRow_other _ _ _ _ (by omega)).trans (setRow_heap _ _ _ _ _ _ ((Blk.new _ _ _).alloc _))
      have KQ : Blk w14 (w13.heap.size + 1) 27 (mcells Mq vm10 vs10 vc10 vi10 vo10).toArray := by rw [hw14]; exact setRow_heap _ _ _ _ _ _ ((setRow_other _ _ _ _ (by omega)).trans (Blk.new' (by simp) _ _))
      have hfz : Fr (fun k => w13.heap.size ≤ k) w13 w14 := by
        rw [hw14]
        exact ((((Fr.refl _ _).alloc _).alloc _).trans ((Fr.setRow _ _ _).mono (fun k hk => by omega))).trans ((Fr.setRow _ _ _).mono (fun k hk => by omega))
      have hb14 : Below w13.heap.size w13 w14 := hfz.below (Nat.le_refl _) (fun k hk => hk)
      have e0 : w14.cell? ⟨w13.heap.size, 0, none⟩ = some (.int .i64 Mp.pc) := (KP.cell 0).trans rfl
      have e1 : w14.cell? ⟨w13.heap.size + 1, 0, none⟩ = some (.int .i64 Mq.pc) := (KQ.cell 0).trans rfl
      have f1 := KQ.frozen 0
      have HKP := Lib.hid KP; have HKQ := Lib.hid KQ
      have zq := KQ.lt
      clear hw14 KP KQ hfz
      go_upto_region 17 with fail
      refine wp_nameY ?_
      intro w15 hw15
      have hf15 : Fr (· = w13.heap.size + 1) w14 w15 := by rw [hw15]; exact Fr.set (O := (· = w13.heap.size + 1)) (p := ⟨w13.heap.size + 1, 0, none⟩) (Fr.refl _ _) rfl _
      have KQ5 : Blk w15 (w13.heap.size + 1) 27 (mcells { Mq with pc := Mp.pc } vm10 vs10 vc10 vi10 vo10).toArray := by
        rw [hw15]; have := HKQ.out.set_ 0 (.int .i64 Mp.pc); simpa [mcells] using this
      have KP5 := hf15.blk HKP.out (by omega)
      have hLq := HO10.out.mls.next hb14
      have hLp := HO9'.out.mls.next hb14
      have hL5 : MLs w15 (fun k => w12.heap.size ≤ k ∧ k < w13.heap.size) Mq vm10 vs10 vc10 vi10 vo10 sv10 := hLq.keep (fun b o hd => hf15.cell (by omega) (by omega) o) (fun _ h => h) (fun k hk => by have := hf15.size; omega)
      have hL6 : MLs w15 (fun k => w12.heap.size ≤ k ∧ k < w13.heap.size) { Mq with pc := Mp.pc } vm10 vs10 vc10 vi10 vo10 sv10 := ⟨hL5.rl, hL5.m, hL5.s, hL5.l, hL5.d⟩
      have hR6 := hL6.at_ KQ5
      rw [HPQM.out] at hR6
      have hR7 := (hLp.keep (w' := w15) (fun b o hd => hf15.cell (by omega) (by omega) o) (fun _ h => h) (fun k hk => by have := hf15.size; omega)).at_ KP5
      have HR6 := Lib.hid hR6; have HR7 := Lib.hid hR7
      have hB15 : Below w.heap.size w w15 := ((BEL.out _ HF13.out).next hb14).trans (hf15.below (B := w.heap.size) (by have := ((BEL.out _ HF13.out).next hb14).size; omega) (fun k hk => by have := (BEL.out _ HF13.out).size; omega))
      clear hw15 hf15 KQ5 KP5 hLq hLp hL5 hL6 hR6 hR7 e0 e1 f1 hb14
      go_wp2_with fail
      refine (c_EqualT HR7.out HR6.out HBP.out).mono ?_
      rintro e w16 ⟨rfl, hb16⟩
      have hB16 := hB15.next hb16
      go_wp2_with fail
      go_ret
      exact ⟨rfl, hB16⟩
    · have q0 : (ee != 0) = true := by simpa using he
      have hBe := BEL.out _ HF10.out
      clear he
      go_wp2_with fail
      go_ret
      exact ⟨rfl, hBe⟩
end Go.Proofs.YteenmpjjaheggaaDoor
