/- The walk of the law CpuTurn. -/
import Derived.Test.YtmccbgnonmgbeaaDoorLwY
set_option linter.unusedVariables false
set_option linter.unusedSimpArgs false
namespace Go.Proofs.YtmccbgnonmgbeaaDoor
open Go.RowKit Bk
theorem c_TurnNil (w : World) : Calls Tryd.prog 21 #[.pointer none] w fun e w' => e = .returned (.tuple #[]) ∧ Below w.heap.size w w' := by
  go_enter Tryd.func21, Tryd.ntmps21
  go_wp2_with fail
  go_end0
  exact ⟨rfl, by repeat' (first | (with_reducible assumption) | (with_reducible exact Below.refl _ _) | (with_reducible refine Below.alloc ?_ ?_ _) | (with_reducible refine Bk.drewN_ ?_ _) | (with_reducible refine Below.drew ?_) | (with_reducible refine Below.setCell ?_ ?_ _) | go_size)⟩
set_option maxRecDepth 100000 in
set_option maxHeartbeats 8000000 in
theorem c_lawCpuTurn (A : Option Addr) (n cap : Nat) (im : Img) (M : Mach) (vm vs vc vi vo : Value) (sv : List Value) (w : World) (hC : Rd w (· < w.heap.size) 5 A n (codeCells im.code)) (hw : CodeWf im.code) (hL : MLs w (· < w.heap.size) M vm vs vc vi vo sv) (hwf : MWf M) (hl : ∀ l ∈ M.s, l.length ≤ 281474976710656) (hTab : TableAt w) :
    Calls Tryd.prog 6 #[.agg #[.slice A n cap, .int .i64 im.mem, .int .i64 im.stacks], .agg (mcells M vm vs vc vi vo).toArray] w fun e w' => e = .returned (.bool true) ∧ Below w.heap.size w w' := by
  have hn : n = im.code.length := by have := hC.1; rw [codeCells_length] at this; omega
  obtain ⟨v, hv⟩ : ∃ v, okB im M = v := ⟨_, rfl⟩
  have HC := Lib.hid hC; have HT := Lib.hid hTab; have HL := Lib.hid hL; have HLL := Lib.hid hl; have HN := Lib.hid hn; have HV := Lib.hid hv; have HWF := Lib.hid hwf
  clear hC hTab hL hl hn hv hwf
  go_enter Tryd.func6, Tryd.ntmps6
  go_upto_region 1 with fail
  refine wp_nameY ?_
  intro w1 hw1
  have hB_w1 : Below w.heap.size w w1 := by rw [hw1]; exact (by repeat' (first | (with_reducible assumption) | (with_reducible exact Below.refl _ _) | (with_reducible refine Below.alloc ?_ ?_ _) | (with_reducible refine Bk.drewN_ ?_ _) | (with_reducible refine Below.drew ?_) | (with_reducible refine Below.setCell ?_ ?_ _) | go_size))
  have K_1 : Blk w1 w.heap.size 24 #[.slice A n cap, .int .i64 im.mem, .int .i64 im.stacks] := by rw [hw1]; exact (by repeat' (first | with_reducible assumption | (refine Blk.new' ?_ _ _; simp; done) | refine Blk.alloc ?_ _ | refine Blk.drewN ?_ _ | refine Blk.drew ?_))
  have KM : Blk w1 (w.heap.size + 1) 30 (mcells M vm vs vc vi vo).toArray := by rw [hw1]; exact (by repeat' (first | with_reducible assumption | (refine Blk.new' ?_ _ _; simp; done) | refine Blk.alloc ?_ _ | refine Blk.drewN ?_ _ | refine Blk.drew ?_))
  have HM := Lib.hid ((HL.out.next hB_w1).at_ KM)
  have zz : w1.heap.size = w.heap.size + 2 := by rw [hw1]; simp
  clear hw1 KM
  obtain ⟨z_1, T_1, F_1⟩ := K_1.open_; have H_1 := Lib.hid K_1; clear K_1
  go_wp2_with fail
  refine (c_awake24 _ (HT.out.next hB_w1)).mono ?_
  rintro e w2 ⟨rfl, hb2⟩
  have hB_w2 := hB_w1.next hb2
  replace HM := Lib.hid (HM.out.next hb2)
  have K_1 : Blk w2 (w.heap.size) 24 #[.slice A n cap, .int .i64 im.mem, .int .i64 im.stacks] := Blk.next (by repeat' (first | with_reducible exact H_1.out | with_reducible exact K0_1 | (refine Blk.new' ?_ _ _; simp; done) | with_reducible refine Blk.alloc ?_ _ | with_reducible refine Blk.drewN ?_ _ | with_reducible refine Blk.drew ?_)) hb2; (try clear H_1); (try clear T_1); (try clear z_1); (try clear F_1); obtain ⟨z_1, T_1, F_1⟩ := K_1.open_; have H_1 := Lib.hid K_1; clear K_1
  have z2 := hb2.size
  clear hb2
  go_wp2_with (refine wpList_loadG 30 rfl rfl rfl (load_mach HM.out) ?_; simp only [Act.put, List.setIfInBounds_toArray, List.set_cons_succ, List.set_cons_zero])
  refine (c_fits24 (HL.out.next hB_w2) A n cap im HN.out HLL.out (HC.out.next hB_w2) hw (HT.out.next hB_w2) HV.out).mono ?_
  rintro e w3 ⟨rfl, hb3⟩
  have hB_w3 := hB_w2.next hb3
  replace HM := Lib.hid (HM.out.next hb3)
  have K_1 : Blk w3 (w.heap.size) 24 #[.slice A n cap, .int .i64 im.mem, .int .i64 im.stacks] := Blk.next (by repeat' (first | with_reducible exact H_1.out | with_reducible exact K0_1 | (refine Blk.new' ?_ _ _; simp; done) | with_reducible refine Blk.alloc ?_ _ | with_reducible refine Blk.drewN ?_ _ | with_reducible refine Blk.drew ?_)) hb3; (try clear H_1); (try clear T_1); (try clear z_1); (try clear F_1); obtain ⟨z_1, T_1, F_1⟩ := K_1.open_; have H_1 := Lib.hid K_1; clear K_1
  have z3 := hb3.size
  clear hb3
  cases v with
  | false =>
    go_wp2_with fail
    refine (c_awake24 _ (HT.out.next hB_w3)).mono ?_
    rintro e w4 ⟨rfl, hb4⟩
    have hB_w4 := hB_w3.next hb4
    go_wp2_with fail
    go_ret
    exact ⟨rfl, hB_w4⟩
  | true =>
    obtain ⟨hck, hfit, hsb, h100⟩ := ok_facts HWF.out HV.out
    have hbd : MBd M := MBd.of hck hfit hsb (by omega)
    have HCK := Lib.hid hck; have HFIT := Lib.hid hfit; have HSB := Lib.hid hsb; have HBD := Lib.hid hbd
    clear hck hfit hsb hbd
    go_wp2_with fail
    refine (c_Clone HM.out HBD.out).mono ?_
    rintro e w4 ⟨ba, gma, gsa, rfl, ra1, ra2, ra3, hcl, hb⟩
    have hB_w4 := hB_w3.next hb
    replace HM := Lib.hid (HM.out.next hb)
    have K_1 : Blk w4 (w.heap.size) 24 #[.slice A n cap, .int .i64 im.mem, .int .i64 im.stacks] := Blk.next (by repeat' (first | with_reducible exact H_1.out | with_reducible exact K0_1 | (refine Blk.new' ?_ _ _; simp; done) | with_reducible refine Blk.alloc ?_ _ | with_reducible refine Blk.drewN ?_ _ | with_reducible refine Blk.drew ?_)) hb; (try clear H_1); (try clear T_1); (try clear z_1); (try clear F_1); obtain ⟨z_1, T_1, F_1⟩ := K_1.open_; have H_1 := Lib.hid K_1; clear K_1
    have zw4 := hb.size
    have HAz := Lib.hid hcl
    clear hcl hb
    go_wp2_with fail
    refine (c_Clone HM.out HBD.out).mono ?_
    rintro e w5 ⟨bb, gmb, gsb, rfl, rb1, rb2, rb3, hcl, hb⟩
    have hB_w5 := hB_w4.next hb
    replace HM := Lib.hid (HM.out.next hb)
    have K_1 : Blk w5 (w.heap.size) 24 #[.slice A n cap, .int .i64 im.mem, .int .i64 im.stacks] := Blk.next (by repeat' (first | with_reducible exact H_1.out | with_reducible exact K0_1 | (refine Blk.new' ?_ _ _; simp; done) | with_reducible refine Blk.alloc ?_ _ | with_reducible refine Blk.drewN ?_ _ | with_reducible refine Blk.drew ?_)) hb; (try clear H_1); (try clear T_1); (try clear z_1); (try clear F_1); obtain ⟨z_1, T_1, F_1⟩ := K_1.open_; have H_1 := Lib.hid K_1; clear K_1
    have zw5 := hb.size
    obtain ⟨Pa, hPa⟩ : ∃ P, P = (⟨ba, 30, [], [], 0, gma, gsa, fun k => k < w3.heap.size ∨ (w4.heap.size ≤ k ∧ k < w5.heap.size)⟩ : Pl) := ⟨_, rfl⟩
    have HA5 : Hid (MAt w5 Pa M) := Lib.hid (by rw [hPa]; exact HAz.out.foreign hb (fun k hk => hk.elim .inl fun hk => .inr hk.1) (fun k hk => hk.elim (fun hk => by omega) fun hk => hk.2))
    obtain ⟨Pb, hPb⟩ : ∃ P, P = (⟨bb, 30, [], [], 0, gmb, gsb, (· < w4.heap.size)⟩ : Pl) := ⟨_, rfl⟩
    have HB5 : Hid (MAt w5 Pb M) := Lib.hid (by rw [hPb]; exact hcl)
    have hpab : Pa.b = ba := by rw [hPa]
    have hpao : Pa.off = 0 := by rw [hPa]
    have hpbb : Pb.b = bb := by rw [hPb]
    have hpbo : Pb.off = 0 := by rw [hPb]
    have hx : ∀ k, (Pa.O k → w3.heap.size ≤ k ∧ k < w4.heap.size) ∧ (Pb.O k → w4.heap.size ≤ k ∧ k < w5.heap.size) := by
      obtain ⟨_, _, _, _, _, _, ha⟩ := HAz.out
      obtain ⟨_, _, _, _, _, _, hb'⟩ := HB5.out
      have a1 := ha.lt; have a2 := ha.gm; have a3 := ha.gs; have c1 := hb'.lt; have c2 := hb'.gm; have c3 := hb'.gs
      rw [hPb] at c1 c2 c3
      dsimp only at a1 a2 a3 c1 c2 c3
      refine fun k => ⟨fun ho => ?_, fun ho => ?_⟩
      · rw [hPa] at ho; rcases ho with e | e | e <;> (dsimp only at e; omega)
      · rw [hPb] at ho; rcases ho with e | e | e <;> (dsimp only at e; omega)
    have hab : ¬ Pa.O Pb.b ∧ ¬ Pa.O Pb.gm ∧ ¬ Pa.O Pb.gs ∧ ∀ k, Pa.O k → Pb.fx k :=
      ⟨fun h => by have := (hx _).1 h; have := (hx _).2 (.inl rfl); omega, fun h => by have := (hx _).1 h; have := (hx _).2 (.inr (.inl rfl)); omega, fun h => by have := (hx _).1 h; have := (hx _).2 (.inr (.inr rfl)); omega, fun k h => by rw [hPb]; exact ((hx k).1 h).2⟩
    have hba : ¬ Pb.O Pa.b ∧ ¬ Pb.O Pa.gm ∧ ¬ Pb.O Pa.gs ∧ ∀ k, Pb.O k → Pa.fx k :=
      ⟨fun h => by have := (hx _).2 h; have := (hx _).1 (.inl rfl); omega, fun h => by have := (hx _).2 h; have := (hx _).1 (.inr (.inl rfl)); omega, fun h => by have := (hx _).2 h; have := (hx _).1 (.inr (.inr rfl)); omega, fun k h => by rw [hPa]; exact .inr ((hx k).2 h)⟩
    have HX := Lib.hid hx; have HAB := Lib.hid hab; have HBA := Lib.hid hba
    have HOA : Hid (∀ k, Pa.O k → w3.heap.size ≤ k) := Lib.hid fun k h => ((hx k).1 h).1
    have HOB : Hid (∀ k, Pb.O k → w3.heap.size ≤ k) := Lib.hid fun k h => by have := ((hx k).2 h).1; omega
    have hzw : w.heap.size + 2 ≤ w3.heap.size := by omega
    have HF5 := Lib.hid (Fr.refl (fun k => w3.heap.size ≤ k) w5)
    obtain ⟨dd, hdd⟩ : ∃ dd, M.dir = dd := ⟨_, rfl⟩
    have hd := HFIT.out.d
    rw [hdd] at hd
    have d0 : -1 ≤ dd := by omega
    have d1 : dd ≤ 1 := by omega
    have HDD := Lib.hid hdd
    clear hx hab hba hcl hb HAz hdd hd
    go_wp2_with fail
    obtain ⟨_, _, _, _, _, _, hA⟩ := HA5.out
    have hs := c_Turn hA HFIT.out.d
    rw [hpab, hpao] at hs
    refine hs.mono ?_
    rintro e w6 ⟨rfl, hA6, hf6⟩
    have HA6 := Lib.hid hA6
    have HB6 := Lib.hid (HB5.out.other hf6 HAB.out.1 HAB.out.2.1 HAB.out.2.2.1 HAB.out.2.2.2)
    have HF6 := Lib.hid (HF5.out.trans (hf6.mono HOA.out))
    have K_1 := HF6.out.blk H_1.out (by omega)
    clear T_1 z_1 F_1
    obtain ⟨z_1, T_1, F_1⟩ := K_1.open_; have H6 := Lib.hid K_1; clear K_1
    have eM : w6.cell? ⟨w.heap.size + 1, 1, none⟩ = some (.int .i64 dd) := by
      have := (HM.out.fr HF6.out (by omega) (fun k hk => by omega)).c1
      rw [HDD.out] at this; exact this
    have eA : w6.cell? ⟨ba, 1, none⟩ = some (.int .i64 (-dd)) := by
      obtain ⟨_, _, _, _, _, _, h6⟩ := HA6.out
      have := h6.c1; rw [hpab, hpao] at this
      rw [← HDD.out]; exact this
    clear hA hs hA6 hf6 HA5 HB5 HF5
    go_wp2_with fail
    go_quiet (fail)
    obtain ⟨ee, N, hst⟩ : ∃ ee N, Bk.step im.code M.turn = (ee, N) := ⟨_, _, rfl⟩
    have hN : N = (Bk.step im.code M.turn).2 := by rw [hst]
    have hfN : Fit im N := by rw [hN]; exact Fit_step HCK.out hw HFIT.out.turn
    have hbN : MBd N := by rw [hN]; exact MBd.of HCK.out (by rw [← hN]; exact hfN) (SB.step (SB.turn HSB.out) im.code) (by omega)
    have HST := Lib.hid hst; have HFN := Lib.hid hfN; have HBN := Lib.hid hbN
    clear eM eA hst hN hfN hbN
    go_wp2_with fail
    refine calls_nameY ?_
    intro w7 hw7
    have hB7 : Below w6.heap.size w6 w7 := by rw [hw7]; exact (by repeat' (first | (with_reducible assumption) | (with_reducible exact Below.refl _ _) | (with_reducible refine Below.alloc ?_ ?_ _) | (with_reducible refine Bk.drewN_ ?_ _) | (with_reducible refine Below.drew ?_) | (with_reducible refine Below.setCell ?_ ?_ _) | go_size))
    have HA7 := Lib.hid (HA6.out.next hB7)
    have HB7 := Lib.hid (HB6.out.next hB7)
    have HF7 := Lib.hid (HF6.out.next hB7)
    have K_1 := H6.out.next hB7
    clear hw7 T_1 z_1 F_1
    obtain ⟨z_1, T_1, F_1⟩ := K_1.open_; have H7 := Lib.hid K_1; clear K_1
    obtain ⟨_, _, _, _, _, _, hA⟩ := HA7.out
    have bel : ∀ wz, Fr (fun k => w3.heap.size ≤ k) w5 wz → Below w.heap.size w wz := fun wz hf => hB_w5.trans (hf.below (B := w.heap.size) (by have := hB_w5.size; omega) (fun k hk => by omega))
    have BEL := Lib.hid bel; clear bel
    have envA : ∀ wz, Fr (fun k => w3.heap.size ≤ k) w5 wz → Env wz Pa A n im.code := fun wz hf => Env.old HC.out hw HT.out (by omega) (BEL.out wz hf) (fun k hk ho => by have := HOA.out k ho; omega)
    have envB : ∀ wz, Fr (fun k => w3.heap.size ≤ k) w5 wz → Env wz Pb A n im.code := fun wz hf => Env.old HC.out hw HT.out (by omega) (BEL.out wz hf) (fun k hk ho => by have := HOB.out k ho; omega)
    have ENVA := Lib.hid envA; have ENVB := Lib.hid envB; clear envA envB
    have hs := c_Step hA cap im (ENVA.out _ HF7.out) HCK.out HFIT.out.turn (MBd.turn HBD.out)
    rw [hpab, hpao] at hs
    refine (OnM.of hs HST.out.symm).mono ?_
    rintro e w8 ⟨rfl, hA8, hf8⟩
    have HA8 := Lib.hid hA8
    have HB8 := Lib.hid (HB7.out.other hf8 HAB.out.1 HAB.out.2.1 HAB.out.2.2.1 HAB.out.2.2.2)
    have HF8 := Lib.hid (HF7.out.trans (hf8.mono HOA.out))
    have K_1 := HF8.out.blk H_1.out (by omega)
    clear T_1 z_1 F_1
    obtain ⟨z_1, T_1, F_1⟩ := K_1.open_; have H8 := Lib.hid K_1; clear K_1
    clear hA hs hA8 hf8 hB7
    go_wp2_with fail
    obtain ⟨_, _, _, _, _, _, hA⟩ := HA8.out
    have hs := c_Turn hA HFN.out.d
    rw [hpab, hpao] at hs
    refine hs.mono ?_
    rintro e w9 ⟨rfl, hA9, hf9⟩
    have HA9 := Lib.hid hA9
    have HB9 := Lib.hid (HB8.out.other hf9 HAB.out.1 HAB.out.2.1 HAB.out.2.2.1 HAB.out.2.2.2)
    have HF9 := Lib.hid (HF8.out.trans (hf9.mono HOA.out))
    have K_1 := HF9.out.blk H_1.out (by omega)
    clear T_1 z_1 F_1
    obtain ⟨z_1, T_1, F_1⟩ := K_1.open_; have H9 := Lib.hid K_1; clear K_1
    clear hA hs hA9 hf9
    go_wp2_with fail
    obtain ⟨_, _, _, _, _, _, hB⟩ := HB9.out
    have hs := c_Back hB cap im (ENVB.out _ HF9.out) HCK.out HFIT.out HBD.out
    rw [hpbb, hpbo] at hs
    refine (OnM.of hs (y := (ee, N.turn)) (by rw [HST.out])).mono ?_
    rintro e w10 ⟨rfl, hB10, hf10⟩
    have HB10 := Lib.hid hB10
    have HA10 := Lib.hid (HA9.out.other hf10 HBA.out.1 HBA.out.2.1 HBA.out.2.2.1 HBA.out.2.2.2)
    have HF10 := Lib.hid (HF9.out.trans (hf10.mono HOB.out))
    clear T_1 z_1 F_1 hB hs hB10 hf10
    go_wp2_with fail
    refine (c_TurnNil _).mono ?_
    rintro e w11 ⟨rfl, hb11⟩
    have HF11 := Lib.hid (HF10.out.next hb11)
    obtain ⟨_, _, _, _, _, _, hA⟩ := MAt.rd (HA10.out.next hb11)
    obtain ⟨_, _, _, _, _, _, hB⟩ := MAt.rd (HB10.out.next hb11)
    rw [hpab, hpao] at hA
    rw [hpbb, hpbo] at hB
    have HA11 := Lib.hid hA; have HB11 := Lib.hid hB
    clear hA hB hb11
    go_wp2_with fail
    refine (c_EqualT HA11.out HB11.out (MBd.turn HBN.out)).mono ?_
    rintro e w12 ⟨rfl, hb12⟩
    have hB12 := (BEL.out _ HF11.out).next hb12
    go_wp2_with fail
    go_ret
    exact ⟨rfl, hB12⟩
end Go.Proofs.YtmccbgnonmgbeaaDoor
