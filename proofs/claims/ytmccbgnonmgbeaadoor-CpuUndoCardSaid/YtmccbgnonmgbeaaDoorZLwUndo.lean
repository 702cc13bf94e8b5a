/- The walk of the law CpuUndo. -/
import Derived.Test.YtmccbgnonmgbeaaDoorLwY
import Derived.Test.YtmccbgnonmgbeaaDoorZREq
set_option linter.unusedVariables false
set_option linter.unusedSimpArgs false
namespace Go.Proofs.YtmccbgnonmgbeaaDoor
open Go.RowKit Bk
set_option maxRecDepth 100000 in
set_option maxHeartbeats 8000000 in
theorem c_lawCpuUndo (A : Option Addr) (n cap : Nat) (im : Img) (M : Mach) (vm vs vc vi vo : Value) (sv : List Value) (w : World) (hC : Rd w (· < w.heap.size) 5 A n (codeCells im.code)) (hw : CodeWf im.code) (hL : MLs w (· < w.heap.size) M vm vs vc vi vo sv) (hwf : MWf M) (hl : ∀ l ∈ M.s, l.length ≤ 281474976710656) (hTab : TableAt w) :
    Calls Tryd.prog 9 #[.agg #[.slice A n cap, .int .i64 im.mem, .int .i64 im.stacks], .agg (mcells M vm vs vc vi vo).toArray] w fun e w' => e = .returned (.bool true) ∧ Below w.heap.size w w' := by
  have hn : n = im.code.length := by have := hC.1; rw [codeCells_length] at this; omega
  obtain ⟨v, hv⟩ : ∃ v, okB im M = v := ⟨_, rfl⟩
  have HC := Lib.hid hC; have HT := Lib.hid hTab; have HL := Lib.hid hL; have HLL := Lib.hid hl; have HN := Lib.hid hn; have HV := Lib.hid hv; have HWF := Lib.hid hwf
  clear hC hTab hL hl hn hv hwf
  go_enter Tryd.func9, Tryd.ntmps9
  go_upto_region 1 with fail
  refine wp_nameY ?_
  intro w1 hw1
  have hB_w1 : Below w.heap.size w w1 := by rw [hw1]; exact (by repeat' (first | (with_reducible assumption) | (with_reducible exact Below.refl _ _) | (with_reducible refine Below.alloc ?_ ?_ _) | (with_reducible refine Bk.drewN_ ?_ _) | (with_reducible refine Below.drew ?_) | (with_reducible refine Below.setCell ?_ ?_ _) | go_size))
  have K_1 : Blk w1 w.heap.size 24 #[.slice A n cap, .int .i64 im.mem, .int .i64 im.stacks] := by rw [hw1]; exact (by repeat' (first | with_reducible assumption | (refine Blk.new' ?_ _ _; simp; done) | refine Blk.alloc ?_ _ | refine Blk.drewN ?_ _ | refine Blk.drew ?_))
  have KM : Blk w1 (w.heap.size + 1) 30 (mcells M vm vs vc vi vo).toArray := by rw [hw1]; exact (by repeat' (first | with_reducible assumption | (refine Blk.new' ?_ _ _; simp; done) | refine Blk.alloc ?_ _ | refine Blk.drewN ?_ _ | refine Blk.drew ?_))
  have HM := Lib.hid ((HL.out.next hB_w1).at_ KM)
  have zz : w1.heap.size = w.heap.size + 2 := by rw [hw1]; simp
  clear hw1 KM
  obtain ⟨z_1, T_1, F_1⟩ := K_1.open_; have H_1 := Lib.hid K_1; clear K_1
  go_wp2_with fail
  refine (c_awake24 _ (HT.out.next hB_w1)).mono ?_
  rintro e w2 ⟨rfl, hb2⟩
  have hB_w2 := hB_w1.next hb2
  replace HM := Lib.hid (HM.out.next hb2)
  have K_1 : Blk w2 (w.heap.size) 24 #[.slice A n cap, .int .i64 im.mem, .int .i64 im.stacks] := Blk.next (by repeat' (first | with_reducible exact H_1.out | with_reducible exact K0_1 | (refine Blk.new' ?_ _ _; simp; done) | with_reducible refine Blk.alloc ?_ _ | with_reducible refine Blk.drewN ?_ _ | with_reducible refine Blk.drew ?_)) hb2; (try clear H_1); (try clear T_1); (try clear z_1); (try clear F_1); obtain ⟨z_1, T_1, F_1⟩ := K_1.open_; have H_1 := Lib.hid K_1; clear K_1
  have z2 := hb2.size
  clear hb2
  go_wp2_with (refine wpList_loadG 30 rfl rfl rfl (load_mach HM.out) ?_; simp only [Act.put, List.setIfInBounds_toArray, List.set_cons_succ, List.set_cons_zero])
  refine (c_fits24 (HL.out.next hB_w2) A n cap im HN.out HLL.out (HC.out.next hB_w2) hw (HT.out.next hB_w2) HV.out).mono ?_
  rintro e w3 ⟨rfl, hb3⟩
  have hB_w3 := hB_w2.next hb3
  replace HM := Lib.hid (HM.out.next hb3)
  have K_1 : Blk w3 (w.heap.size) 24 #[.slice A n cap, .int .i64 im.mem, .int .i64 im.stacks] := Blk.next (by repeat' (first | with_reducible exact H_1.out | with_reducible exact K0_1 | (refine Blk.new' ?_ _ _; simp; done) | with_reducible refine Blk.alloc ?_ _ | with_reducible refine Blk.drewN ?_ _ | with_reducible refine Blk.drew ?_)) hb3; (try clear H_1); (try clear T_1); (try clear z_1); (try clear F_1); obtain ⟨z_1, T_1, F_1⟩ := K_1.open_; have H_1 := Lib.hid K_1; clear K_1
  have z3 := hb3.size
  clear hb3
  cases v with
  | false =>
    go_wp2_with fail
    refine (c_awake24 _ (HT.out.next hB_w3)).mono ?_
    rintro e w4 ⟨rfl, hb4⟩
    have hB_w4 := hB_w3.next hb4
    go_wp2_with fail
    go_ret
    exact ⟨rfl, hB_w4⟩
  | true =>
    obtain ⟨hck, hfit, hsb, h100⟩ := ok_facts HWF.out HV.out
    have hbd : MBd M := MBd.of hck hfit hsb (by omega)
    have HCK := Lib.hid hck; have HFIT := Lib.hid hfit; have HSB := Lib.hid hsb; have HBD := Lib.hid hbd
    clear hck hfit hsb hbd
    go_wp2_with fail
    refine (c_Clone HM.out HBD.out).mono ?_
    rintro e w4 ⟨ba, gma, gsa, rfl, ra1, ra2, ra3, hcl, hb⟩
    have hB_w4 := hB_w3.next hb
    replace HM := Lib.hid (HM.out.next hb)
    have K_1 : Blk w4 (w.heap.size) 24 #[.slice A n cap, .int .i64 im.mem, .int .i64 im.stacks] := Blk.next (by repeat' (first | with_reducible exact H_1.out | with_reducible exact K0_1 | (refine Blk.new' ?_ _ _; simp; done) | with_reducible refine Blk.alloc ?_ _ | with_reducible refine Blk.drewN ?_ _ | with_reducible refine Blk.drew ?_)) hb; (try clear H_1); (try clear T_1); (try clear z_1); (try clear F_1); obtain ⟨z_1, T_1, F_1⟩ := K_1.open_; have H_1 := Lib.hid K_1; clear K_1
    have zw4 := hb.size
    have HAz := Lib.hid hcl
    clear hcl hb
    go_wp2_with fail
    refine (c_Clone HM.out HBD.out).mono ?_
    rintro e w5 ⟨bb, gmb, gsb, rfl, rb1, rb2, rb3, hcl, hb⟩
    have hB_w5 := hB_w4.next hb
    replace HM := Lib.hid (HM.out.next hb)
    have K_1 : Blk w5 (w.heap.size) 24 #[.slice A n cap, .int .i64 im.mem, .int .i64 im.stacks] := Blk.next (by repeat' (first | with_reducible exact H_1.out | with_reducible exact K0_1 | (refine Blk.new' ?_ _ _; simp; done) | with_reducible refine Blk.alloc ?_ _ | with_reducible refine Blk.drewN ?_ _ | with_reducible refine Blk.drew ?_)) hb; (try clear H_1); (try clear T_1); (try clear z_1); (try clear F_1); obtain ⟨z_1, T_1, F_1⟩ := K_1.open_; have H_1 := Lib.hid K_1; clear K_1
    have zw5 := hb.size
    obtain ⟨Pa, hPa⟩ : ∃ P, P = (⟨ba, 30, [], [], 0, gma, gsa, fun k => k < w3.heap.size ∨ (w4.heap.size ≤ k ∧ k < w5.heap.size)⟩ : Pl) := ⟨_, rfl⟩
    have HA : Hid (MAt w5 Pa M) := Lib.hid (by rw [hPa]; exact HAz.out.foreign hb (fun k hk => hk.elim .inl fun hk => .inr hk.1) (fun k hk => hk.elim (fun hk => by omega) fun hk => hk.2))
    obtain ⟨Pb, hPb⟩ : ∃ P, P = (⟨bb, 30, [], [], 0, gmb, gsb, (· < w4.heap.size)⟩ : Pl) := ⟨_, rfl⟩
    have HB : Hid (MAt w5 Pb M) := Lib.hid (by rw [hPb]; exact hcl)
    have hpab : Pa.b = ba := by rw [hPa]
    have hpao : Pa.off = 0 := by rw [hPa]
    have hpbb : Pb.b = bb := by rw [hPb]
    have hpbo : Pb.off = 0 := by rw [hPb]
    have hx : ∀ k, (Pa.O k → w3.heap.size ≤ k ∧ k < w4.heap.size) ∧ (Pb.O k → w4.heap.size ≤ k ∧ k < w5.heap.size) := by
      obtain ⟨_, _, _, _, _, _, ha⟩ := HAz.out
      obtain ⟨_, _, _, _, _, _, hb'⟩ := HB.out
      have a1 := ha.lt; have a2 := ha.gm; have a3 := ha.gs; have c1 := hb'.lt; have c2 := hb'.gm; have c3 := hb'.gs
      rw [hPb] at c1 c2 c3
      dsimp only at a1 a2 a3 c1 c2 c3
      refine fun k => ⟨fun ho => ?_, fun ho => ?_⟩
      · rw [hPa] at ho; rcases ho with e | e | e <;> (dsimp only at e; omega)
      · rw [hPb] at ho; rcases ho with e | e | e <;> (dsimp only at e; omega)
    have hab : ¬ Pa.O Pb.b ∧ ¬ Pa.O Pb.gm ∧ ¬ Pa.O Pb.gs ∧ ∀ k, Pa.O k → Pb.fx k :=
      ⟨fun h => by have := (hx _).1 h; have := (hx _).2 (.inl rfl); omega, fun h => by have := (hx _).1 h; have := (hx _).2 (.inr (.inl rfl)); omega, fun h => by have := (hx _).1 h; have := (hx _).2 (.inr (.inr rfl)); omega, fun k h => by rw [hPb]; exact ((hx k).1 h).2⟩
    have hba : ¬ Pb.O Pa.b ∧ ¬ Pb.O Pa.gm ∧ ¬ Pb.O Pa.gs ∧ ∀ k, Pb.O k → Pa.fx k :=
      ⟨fun h => by have := (hx _).2 h; have := (hx _).1 (.inl rfl); omega, fun h => by have := (hx _).2 h; have := (hx _).1 (.inr (.inl rfl)); omega, fun h => by have := (hx _).2 h; have := (hx _).1 (.inr (.inr rfl)); omega, fun k h => by rw [hPa]; exact .inr ((hx k).2 h)⟩
    have HX := Lib.hid hx; have HAB := Lib.hid hab; have HBA := Lib.hid hba
    have HOA : Hid (∀ k, Pa.O k → w3.heap.size ≤ k) := Lib.hid fun k h => ((hx k).1 h).1
    have HOB : Hid (∀ k, Pb.O k → w3.heap.size ≤ k) := Lib.hid fun k h => by have := ((hx k).2 h).1; omega
    have hzw : w.heap.size + 2 ≤ w3.heap.size := by omega
    have HF := Lib.hid (Fr.refl (fun k => w3.heap.size ≤ k) w5)
    obtain ⟨dd, hdd⟩ : ∃ dd, M.dir = dd := ⟨_, rfl⟩
    have hd := HFIT.out.d
    rw [hdd] at hd
    have d0 : -1 ≤ dd := by omega
    have d1 : dd ≤ 1 := by omega
    have HDD := Lib.hid hdd
    clear hx hab hba hcl hb HAz hdd hd
    have bel : ∀ wz, Fr (fun k => w3.heap.size ≤ k) w5 wz → Below w.heap.size w wz := fun wz hf => hB_w5.trans (hf.below (B := w.heap.size) (by have := hB_w5.size; omega) (fun k hk => by omega))
    have BEL := Lib.hid bel; clear bel
    have envA : ∀ wz, Fr (fun k => w3.heap.size ≤ k) w5 wz → Env wz Pa A n im.code := fun wz hf => Env.old HC.out hw HT.out (by omega) (BEL.out wz hf) (fun k hk ho => by have := HOA.out k ho; omega)
    have envB : ∀ wz, Fr (fun k => w3.heap.size ≤ k) w5 wz → Env wz Pb A n im.code := fun wz hf => Env.old HC.out hw HT.out (by omega) (BEL.out wz hf) (fun k hk ho => by have := HOB.out k ho; omega)
    have ENVA := Lib.hid envA; have ENVB := Lib.hid envB; clear envA envB
    have FW := fun (N : Mach) (hN : (Bk.step im.code M) = (0, N)) => step_undo HCK.out hw HFIT.out hN
    have FW := Lib.hid FW
    have BW := fun (N : Mach) (hN : (Bk.step im.code M.turn) = (0, N)) => step_undo HCK.out hw HFIT.out.turn hN
    have BW := Lib.hid BW
    clear HDD d0 d1
    by_cases h0 : (Bk.step im.code M).1 = 0
    · obtain ⟨N1, hN1⟩ : ∃ N, Bk.step im.code M = (0, N) := ⟨_, Prod.ext h0 rfl⟩
      have hf1 := (FW.out _ hN1).1
      have hs1 := (FW.out _ hN1).2
      have hb1 : MBd N1 := MBd.of HCK.out hf1 (K := 5001) (by have := SB.step HSB.out im.code; rw [hN1] at this; exact this) (by omega)
      have HN1 := Lib.hid hN1; have HF1 := Lib.hid hf1; have HS1 := Lib.hid hs1; have HB1 := Lib.hid hb1
      clear h0 hN1 hf1 hs1 hb1
      go_wp2_with fail
      obtain ⟨_, _, _, _, _, _, hX⟩ := HA.out
      have hs := c_Step hX cap im (ENVA.out _ HF.out) HCK.out HFIT.out HBD.out
      rw [hpab, hpao] at hs
      refine (OnM.of hs (y := (0, N1)) HN1.out.symm).mono ?_
      rintro e w6 ⟨rfl, hX', hf⟩
      replace HA := Lib.hid hX'
      replace HB := Lib.hid (HB.out.other hf HAB.out.1 HAB.out.2.1 HAB.out.2.2.1 HAB.out.2.2.2)
      replace HF := Lib.hid (HF.out.trans (hf.mono HOA.out))
      clear T_1 z_1 F_1 hX hs hX' hf
      have K_1 := HF.out.blk H_1.out (by omega)
      obtain ⟨z_1, T_1, F_1⟩ := K_1.open_; clear K_1
      go_wp2_with fail
      obtain ⟨_, _, _, _, _, _, hX⟩ := HA.out
      have hs := c_FitsT hX cap im (ENVA.out _ HF.out) HCK.out HF1.out HB1.out
      rw [hpab, hpao] at hs
      refine hs.mono ?_
      rintro e w7 ⟨rfl, hb⟩
      replace HA := Lib.hid (HA.out.next hb); replace HB := Lib.hid (HB.out.next hb)
      replace HF := Lib.hid (HF.out.next hb)
      clear T_1 z_1 F_1 hX hs hb
      have K_1 := HF.out.blk H_1.out (by omega)
      obtain ⟨z_1, T_1, F_1⟩ := K_1.open_; clear K_1
      go_wp2_with fail
      obtain ⟨_, _, _, _, _, _, hX⟩ := HA.out
      have hs := c_Back hX cap im (ENVA.out _ HF.out) HCK.out HF1.out HB1.out
      rw [hpab, hpao] at hs
      refine (OnM.of hs (y := (0, M)) (by rw [HS1.out, turn_turn])).mono ?_
      rintro e w8 ⟨rfl, hX', hf⟩
      replace HA := Lib.hid hX'
      replace HB := Lib.hid (HB.out.other hf HAB.out.1 HAB.out.2.1 HAB.out.2.2.1 HAB.out.2.2.2)
      replace HF := Lib.hid (HF.out.trans (hf.mono HOA.out))
      clear T_1 z_1 F_1 hX hs hX' hf
      have K_1 := HF.out.blk H_1.out (by omega)
      obtain ⟨z_1, T_1, F_1⟩ := K_1.open_; clear K_1
      go_wp2_with fail
      by_cases h0 : (Bk.step im.code M.turn).1 = 0
      · obtain ⟨N2, hN2⟩ : ∃ N, Bk.step im.code M.turn = (0, N) := ⟨_, Prod.ext h0 rfl⟩
        have hf2 := (BW.out _ hN2).1
        have hs2 := (BW.out _ hN2).2
        rw [turn_turn] at hs2
        have hb2 : MBd N2 := MBd.of HCK.out hf2 (K := 5001) (by have := SB.step (SB.turn HSB.out) im.code; rw [hN2] at this; exact this) (by omega)
        have HN2 := Lib.hid hN2; have HF2 := Lib.hid hf2.turn; have HS2 := Lib.hid hs2; have HB2 := Lib.hid (MBd.turn hb2)
        clear h0 hN2 hf2 hs2 hb2
        go_wp2_with fail
        obtain ⟨_, _, _, _, _, _, hX⟩ := HB.out
        have hs := c_Back hX cap im (ENVB.out _ HF.out) HCK.out HFIT.out HBD.out
        rw [hpbb, hpbo] at hs
        refine (OnM.of hs (y := (0, N2.turn)) (by rw [HN2.out])).mono ?_
        rintro e w11 ⟨rfl, hX', hf⟩
        replace HB := Lib.hid hX'
        replace HA := Lib.hid (HA.out.other hf HBA.out.1 HBA.out.2.1 HBA.out.2.2.1 HBA.out.2.2.2)
        replace HF := Lib.hid (HF.out.trans (hf.mono HOB.out))
        clear T_1 z_1 F_1 hX hs hX' hf
        have K_1 := HF.out.blk H_1.out (by omega)
        obtain ⟨z_1, T_1, F_1⟩ := K_1.open_; clear K_1
        go_wp2_with fail
        obtain ⟨_, _, _, _, _, _, hX⟩ := HB.out
        have hs := c_FitsT hX cap im (ENVB.out _ HF.out) HCK.out HF2.out HB2.out
        rw [hpbb, hpbo] at hs
        refine hs.mono ?_
        rintro e w12 ⟨rfl, hb⟩
        replace HA := Lib.hid (HA.out.next hb); replace HB := Lib.hid (HB.out.next hb)
        replace HF := Lib.hid (HF.out.next hb)
        clear T_1 z_1 F_1 hX hs hb
        have K_1 := HF.out.blk H_1.out (by omega)
        obtain ⟨z_1, T_1, F_1⟩ := K_1.open_; clear K_1
        go_wp2_with fail
        obtain ⟨_, _, _, _, _, _, hX⟩ := HB.out
        have hs := c_Step hX cap im (ENVB.out _ HF.out) HCK.out HF2.out HB2.out
        rw [hpbb, hpbo] at hs
        refine (OnM.of hs (y := (0, M)) (by rw [HS2.out])).mono ?_
        rintro e w13 ⟨rfl, hX', hf⟩
        replace HB := Lib.hid hX'
        replace HA := Lib.hid (HA.out.other hf HBA.out.1 HBA.out.2.1 HBA.out.2.2.1 HBA.out.2.2.2)
        replace HF := Lib.hid (HF.out.trans (hf.mono HOB.out))
        clear T_1 z_1 F_1 hX hs hX' hf
        have K_1 := HF.out.blk H_1.out (by omega)
        obtain ⟨z_1, T_1, F_1⟩ := K_1.open_; clear K_1
        go_wp2_with fail
        have hBcur := BEL.out _ HF.out
        refine wp_region_grow (by kernel_rfl) (by kernel_rfl) ?_; intro W hW; have hneW : Nonempty (Grw W) := ⟨⟨W, Below.refl _ _⟩⟩; have HBz := Lib.hid (fun z => Below.next (show Below w.heap.size w W by (rw [hW]; exact (by repeat' (first | (with_reducible assumption) | (with_reducible exact Below.refl _ _) | (with_reducible refine Below.alloc ?_ ?_ _) | (with_reducible refine Bk.drewN_ ?_ _) | (with_reducible refine Below.drew ?_) | (with_reducible refine Below.setCell ?_ ?_ _) | go_size)))) (grow_below W z))
        obtain ⟨_, _, _, _, _, _, hA⟩ := MAt.rd HA.out
        obtain ⟨_, _, _, _, _, _, hB⟩ := MAt.rd HB.out
        rw [hpab, hpao] at hA
        rw [hpbb, hpbo] at hB
        have hM := HM.out.fr HF.out (by omega) (fun k hk => by omega)
        have zA := fun z => hA.next (w' := grow W z) (by rw [← hW]; exact grow_below W z)
        have zB := fun z => hB.next (w' := grow W z) (by rw [← hW]; exact grow_below W z)
        have zM := fun z => hM.next (w' := grow W z) (by rw [← hW]; exact grow_below W z)
        have lA := fun z => load_mach (zA z); have lB := fun z => load_mach (zB z); have lM := fun z => load_mach (zM z)
        have ZA := Lib.hid zA; have ZB := Lib.hid zB; have ZM := Lib.hid zM
        have HW := Lib.hid hW; clear hW hA hB hM zA zB zM
        have LA := Lib.hid lA; have LB := Lib.hid lB; have LM := Lib.hid lM
        clear lA lB lM
        repeat (first | (go_big_quiet_want; refine quiet_loadG 30 rfl rfl (LA.out) ?_; go_big_quiet_on; simp only [Act.put, List.setIfInBounds_toArray, List.set_cons_succ, List.set_cons_zero]) | (go_big_quiet_want; refine quiet_loadG 30 rfl rfl (LB.out) ?_; go_big_quiet_on; simp only [Act.put, List.setIfInBounds_toArray, List.set_cons_succ, List.set_cons_zero]) | (go_big_quiet_want; refine quiet_loadG 30 rfl rfl (LM.out) ?_; go_big_quiet_on; simp only [Act.put, List.setIfInBounds_toArray, List.set_cons_succ, List.set_cons_zero]) | go_big_quiet_step ((first | (go_at_call 17; with_reducible exact quiet_grow (c_REqT (ZA.out _).mls (ZM.out _).mls HBD.out)) | (go_at_call 17; with_reducible exact quiet_grow (c_REqT (ZB.out _).mls (ZM.out _).mls HBD.out)))))
        refine wpQuiet_nil ?_
        rintro _ ⟨z, rfl⟩
        have hb := grow_below W z
        generalize grow W z = wz at hb ⊢
        rw [HW.out] at hb
        have hBz := (BEL.out _ HF.out).next hb
        clear HW HBz hneW
        go_wp2_with fail
        go_ret
        exact ⟨rfl, hBz⟩
      · have hN2 : (Bk.step im.code M.turn).2.turn = M := by rw [ErrB_step h0, turn_turn]
        obtain ⟨ee2, he2⟩ : ∃ ee, (Bk.step im.code M.turn).1 = ee := ⟨_, rfl⟩
        rw [he2] at h0
        have h0' : (ee2 == 0) = false := by simpa using h0
        have HN2 := Lib.hid hN2; have HE2 := Lib.hid he2
        clear hN2 he2 h0
        go_wp2_with fail
        obtain ⟨_, _, _, _, _, _, hX⟩ := HB.out
        have hs := c_Back hX cap im (ENVB.out _ HF.out) HCK.out HFIT.out HBD.out
        rw [hpbb, hpbo] at hs
        refine (OnM.of hs (y := (ee2, M)) (by rw [HN2.out, HE2.out])).mono ?_
        rintro e w11 ⟨rfl, hX', hf⟩
        replace HB := Lib.hid hX'
        replace HA := Lib.hid (HA.out.other hf HBA.out.1 HBA.out.2.1 HBA.out.2.2.1 HBA.out.2.2.2)
        replace HF := Lib.hid (HF.out.trans (hf.mono HOB.out))
        clear T_1 z_1 F_1 hX hs hX' hf
        have K_1 := HF.out.blk H_1.out (by omega)
        obtain ⟨z_1, T_1, F_1⟩ := K_1.open_; clear K_1
        go_wp2_with fail
        have hBcur := BEL.out _ HF.out
        refine wp_region_grow (by kernel_rfl) (by kernel_rfl) ?_; intro W hW; have hneW : Nonempty (Grw W) := ⟨⟨W, Below.refl _ _⟩⟩; have HBz := Lib.hid (fun z => Below.next (show Below w.heap.size w W by (rw [hW]; exact (by repeat' (first | (with_reducible assumption) | (with_reducible exact Below.refl _ _) | (with_reducible refine Below.alloc ?_ ?_ _) | (with_reducible refine Bk.drewN_ ?_ _) | (with_reducible refine Below.drew ?_) | (with_reducible refine Below.setCell ?_ ?_ _) | go_size)))) (grow_below W z))
        obtain ⟨_, _, _, _, _, _, hA⟩ := MAt.rd HA.out
        obtain ⟨_, _, _, _, _, _, hB⟩ := MAt.rd HB.out
        rw [hpab, hpao] at hA
        rw [hpbb, hpbo] at hB
        have hM := HM.out.fr HF.out (by omega) (fun k hk => by omega)
        have zA := fun z => hA.next (w' := grow W z) (by rw [← hW]; exact grow_below W z)
        have zB := fun z => hB.next (w' := grow W z) (by rw [← hW]; exact grow_below W z)
        have zM := fun z => hM.next (w' := grow W z) (by rw [← hW]; exact grow_below W z)
        have lA := fun z => load_mach (zA z); have lB := fun z => load_mach (zB z); have lM := fun z => load_mach (zM z)
        have ZA := Lib.hid zA; have ZB := Lib.hid zB; have ZM := Lib.hid zM
        have HW := Lib.hid hW; clear hW hA hB hM zA zB zM
        have LA := Lib.hid lA; have LB := Lib.hid lB; have LM := Lib.hid lM
        clear lA lB lM
        repeat (first | (go_big_quiet_want; refine quiet_loadG 30 rfl rfl (LA.out) ?_; go_big_quiet_on; simp only [Act.put, List.setIfInBounds_toArray, List.set_cons_succ, List.set_cons_zero]) | (go_big_quiet_want; refine quiet_loadG 30 rfl rfl (LB.out) ?_; go_big_quiet_on; simp only [Act.put, List.setIfInBounds_toArray, List.set_cons_succ, List.set_cons_zero]) | (go_big_quiet_want; refine quiet_loadG 30 rfl rfl (LM.out) ?_; go_big_quiet_on; simp only [Act.put, List.setIfInBounds_toArray, List.set_cons_succ, List.set_cons_zero]) | go_big_quiet_step ((first | (go_at_call 17; with_reducible exact quiet_grow (c_REqT (ZA.out _).mls (ZM.out _).mls HBD.out)) | (go_at_call 17; with_reducible exact quiet_grow (c_REqT (ZB.out _).mls (ZM.out _).mls HBD.out)))))
        refine wpQuiet_nil ?_
        rintro _ ⟨z, rfl⟩
        have hb := grow_below W z
        generalize grow W z = wz at hb ⊢
        rw [HW.out] at hb
        have hBz := (BEL.out _ HF.out).next hb
        clear HW HBz hneW
        go_wp2_with fail
        go_ret
        exact ⟨rfl, hBz⟩
    · have hN1 : (Bk.step im.code M).2 = M := ErrB_step h0
      obtain ⟨ee1, he1⟩ : ∃ ee, (Bk.step im.code M).1 = ee := ⟨_, rfl⟩
      rw [he1] at h0
      have h0' : (ee1 == 0) = false := by simpa using h0
      have HN1 := Lib.hid hN1; have HE1 := Lib.hid he1
      clear hN1 he1 h0
      go_wp2_with fail
      obtain ⟨_, _, _, _, _, _, hX⟩ := HA.out
      have hs := c_Step hX cap im (ENVA.out _ HF.out) HCK.out HFIT.out HBD.out
      rw [hpab, hpao] at hs
      refine (OnM.of hs (y := (ee1, M)) (Prod.ext HE1.out.symm HN1.out.symm)).mono ?_
      rintro e w6 ⟨rfl, hX', hf⟩
      replace HA := Lib.hid hX'
      replace HB := Lib.hid (HB.out.other hf HAB.out.1 HAB.out.2.1 HAB.out.2.2.1 HAB.out.2.2.2)
      replace HF := Lib.hid (HF.out.trans (hf.mono HOA.out))
      clear T_1 z_1 F_1 hX hs hX' hf
      have K_1 := HF.out.blk H_1.out (by omega)
      obtain ⟨z_1, T_1, F_1⟩ := K_1.open_; clear K_1
      go_wp2_with fail
      by_cases h0 : (Bk.step im.code M.turn).1 = 0
      · obtain ⟨N2, hN2⟩ : ∃ N, Bk.step im.code M.turn = (0, N) := ⟨_, Prod.ext h0 rfl⟩
        have hf2 := (BW.out _ hN2).1
        have hs2 := (BW.out _ hN2).2
        rw [turn_turn] at hs2
        have hb2 : MBd N2 := MBd.of HCK.out hf2 (K := 5001) (by have := SB.step (SB.turn HSB.out) im.code; rw [hN2] at this; exact this) (by omega)
        have HN2 := Lib.hid hN2; have HF2 := Lib.hid hf2.turn; have HS2 := Lib.hid hs2; have HB2 := Lib.hid (MBd.turn hb2)
        clear h0 hN2 hf2 hs2 hb2
        go_wp2_with fail
        obtain ⟨_, _, _, _, _, _, hX⟩ := HB.out
        have hs := c_Back hX cap im (ENVB.out _ HF.out) HCK.out HFIT.out HBD.out
        rw [hpbb, hpbo] at hs
        refine (OnM.of hs (y := (0, N2.turn)) (by rw [HN2.out])).mono ?_
        rintro e w11 ⟨rfl, hX', hf⟩
        replace HB := Lib.hid hX'
        replace HA := Lib.hid (HA.out.other hf HBA.out.1 HBA.out.2.1 HBA.out.2.2.1 HBA.out.2.2.2)
        replace HF := Lib.hid (HF.out.trans (hf.mono HOB.out))
        clear T_1 z_1 F_1 hX hs hX' hf
        have K_1 := HF.out.blk H_1.out (by omega)
        obtain ⟨z_1, T_1, F_1⟩ := K_1.open_; clear K_1
        go_wp2_with fail
        obtain ⟨_, _, _, _, _, _, hX⟩ := HB.out
        have hs := c_FitsT hX cap im (ENVB.out _ HF.out) HCK.out HF2.out HB2.out
        rw [hpbb, hpbo] at hs
        refine hs.mono ?_
        rintro e w12 ⟨rfl, hb⟩
        replace HA := Lib.hid (HA.out.next hb); replace HB := Lib.hid (HB.out.next hb)
        replace HF := Lib.hid (HF.out.next hb)
        clear T_1 z_1 F_1 hX hs hb
        have K_1 := HF.out.blk H_1.out (by omega)
        obtain ⟨z_1, T_1, F_1⟩ := K_1.open_; clear K_1
        go_wp2_with fail
        obtain ⟨_, _, _, _, _, _, hX⟩ := HB.out
        have hs := c_Step hX cap im (ENVB.out _ HF.out) HCK.out HF2.out HB2.out
        rw [hpbb, hpbo] at hs
        refine (OnM.of hs (y := (0, M)) (by rw [HS2.out])).mono ?_
        rintro e w13 ⟨rfl, hX', hf⟩
        replace HB := Lib.hid hX'
        replace HA := Lib.hid (HA.out.other hf HBA.out.1 HBA.out.2.1 HBA.out.2.2.1 HBA.out.2.2.2)
        replace HF := Lib.hid (HF.out.trans (hf.mono HOB.out))
        clear T_1 z_1 F_1 hX hs hX' hf
        have K_1 := HF.out.blk H_1.out (by omega)
        obtain ⟨z_1, T_1, F_1⟩ := K_1.open_; clear K_1
        go_wp2_with fail
        have hBcur := BEL.out _ HF.out
        refine wp_region_grow (by kernel_rfl) (by kernel_rfl) ?_; intro W hW; have hneW : Nonempty (Grw W) := ⟨⟨W, Below.refl _ _⟩⟩; have HBz := Lib.hid (fun z => Below.next (show Below w.heap.size w W by (rw [hW]; exact (by repeat' (first | (with_reducible assumption) | (with_reducible exact Below.refl _ _) | (with_reducible refine Below.alloc ?_ ?_ _) | (with_reducible refine Bk.drewN_ ?_ _) | (with_reducible refine Below.drew ?_) | (with_reducible refine Below.setCell ?_ ?_ _) | go_size)))) (grow_below W z))
        obtain ⟨_, _, _, _, _, _, hA⟩ := MAt.rd HA.out
        obtain ⟨_, _, _, _, _, _, hB⟩ := MAt.rd HB.out
        rw [hpab, hpao] at hA
        rw [hpbb, hpbo] at hB
        have hM := HM.out.fr HF.out (by omega) (fun k hk => by omega)
        have zA := fun z => hA.next (w' := grow W z) (by rw [← hW]; exact grow_below W z)
        have zB := fun z => hB.next (w' := grow W z) (by rw [← hW]; exact grow_below W z)
        have zM := fun z => hM.next (w' := grow W z) (by rw [← hW]; exact grow_below W z)
        have lA := fun z => load_mach (zA z); have lB := fun z => load_mach (zB z); have lM := fun z => load_mach (zM z)
        have ZA := Lib.hid zA; have ZB := Lib.hid zB; have ZM := Lib.hid zM
        have HW := Lib.hid hW; clear hW hA hB hM zA zB zM
        have LA := Lib.hid lA; have LB := Lib.hid lB; have LM := Lib.hid lM
        clear lA lB lM
        repeat (first | (go_big_quiet_want; refine quiet_loadG 30 rfl rfl (LA.out) ?_; go_big_quiet_on; simp only [Act.put, List.setIfInBounds_toArray, List.set_cons_succ, List.set_cons_zero]) | (go_big_quiet_want; refine quiet_loadG 30 rfl rfl (LB.out) ?_; go_big_quiet_on; simp only [Act.put, List.setIfInBounds_toArray, List.set_cons_succ, List.set_cons_zero]) | (go_big_quiet_want; refine quiet_loadG 30 rfl rfl (LM.out) ?_; go_big_quiet_on; simp only [Act.put, List.setIfInBounds_toArray, List.set_cons_succ, List.set_cons_zero]) | go_big_quiet_step ((first | (go_at_call 17; with_reducible exact quiet_grow (c_REqT (ZA.out _).mls (ZM.out _).mls HBD.out)) | (go_at_call 17; with_reducible exact quiet_grow (c_REqT (ZB.out _).mls (ZM.out _).mls HBD.out)))))
        refine wpQuiet_nil ?_
        rintro _ ⟨z, rfl⟩
        have hb := grow_below W z
        generalize grow W z = wz at hb ⊢
        rw [HW.out] at hb
        have hBz := (BEL.out _ HF.out).next hb
        clear HW HBz hneW
        go_wp2_with fail
        go_ret
        exact ⟨rfl, hBz⟩
      · have hN2 : (Bk.step im.code M.turn).2.turn = M := by rw [ErrB_step h0, turn_turn]
        obtain ⟨ee2, he2⟩ : ∃ ee, (Bk.step im.code M.turn).1 = ee := ⟨_, rfl⟩
        rw [he2] at h0
        have h0' : (ee2 == 0) = false := by simpa using h0
        have HN2 := Lib.hid hN2; have HE2 := Lib.hid he2
        clear hN2 he2 h0
        go_wp2_with fail
        obtain ⟨_, _, _, _, _, _, hX⟩ := HB.out
        have hs := c_Back hX cap im (ENVB.out _ HF.out) HCK.out HFIT.out HBD.out
        rw [hpbb, hpbo] at hs
        refine (OnM.of hs (y := (ee2, M)) (by rw [HN2.out, HE2.out])).mono ?_
        rintro e w11 ⟨rfl, hX', hf⟩
        replace HB := Lib.hid hX'
        replace HA := Lib.hid (HA.out.other hf HBA.out.1 HBA.out.2.1 HBA.out.2.2.1 HBA.out.2.2.2)
        replace HF := Lib.hid (HF.out.trans (hf.mono HOB.out))
        clear T_1 z_1 F_1 hX hs hX' hf
        have K_1 := HF.out.blk H_1.out (by omega)
        obtain ⟨z_1, T_1, F_1⟩ := K_1.open_; clear K_1
        go_wp2_with fail
        have hBcur := BEL.out _ HF.out
        refine wp_region_grow (by kernel_rfl) (by kernel_rfl) ?_; intro W hW; have hneW : Nonempty (Grw W) := ⟨⟨W, Below.refl _ _⟩⟩; have HBz := Lib.hid (fun z => Below.next (show Below w.heap.size w W by (rw [hW]; exact (by repeat' (first | (with_reducible assumption) | (with_reducible exact Below.refl _ _) | (with_reducible refine Below.alloc ?_ ?_ _) | (with_reducible refine Bk.drewN_ ?_ _) | (with_reducible refine Below.drew ?_) | (with_reducible refine Below.setCell ?_ ?_ _) | go_size)))) (grow_below W z))
        obtain ⟨_, _, _, _, _, _, hA⟩ := MAt.rd HA.out
        obtain ⟨_, _, _, _, _, _, hB⟩ := MAt.rd HB.out
        rw [hpab, hpao] at hA
        rw [hpbb, hpbo] at hB
        have hM := HM.out.fr HF.out (by omega) (fun k hk => by omega)
        have zA := fun z => hA.next (w' := grow W z) (by rw [← hW]; exact grow_below W z)
        have zB := fun z => hB.next (w' := grow W z) (by rw [← hW]; exact grow_below W z)
        have zM := fun z => hM.next (w' := grow W z) (by rw [← hW]; exact grow_below W z)
        have lA := fun z => load_mach (zA z); have lB := fun z => load_mach (zB z); have lM := fun z => load_mach (zM z)
        have ZA := Lib.hid zA; have ZB := Lib.hid zB; have ZM := Lib.hid zM
        have HW := Lib.hid hW; clear hW hA hB hM zA zB zM
        have LA := Lib.hid lA; have LB := Lib.hid lB; have LM := Lib.hid lM
        clear lA lB lM
        repeat (first | (go_big_quiet_want; refine quiet_loadG 30 rfl rfl (LA.out) ?_; go_big_quiet_on; simp only [Act.put, List.setIfInBounds_toArray, List.set_cons_succ, List.set_cons_zero]) | (go_big_quiet_want; refine quiet_loadG 30 rfl rfl (LB.out) ?_; go_big_quiet_on; simp only [Act.put, List.setIfInBounds_toArray, List.set_cons_succ, List.set_cons_zero]) | (go_big_quiet_want; refine quiet_loadG 30 rfl rfl (LM.out) ?_; go_big_quiet_on; simp only [Act.put, List.setIfInBounds_toArray, List.set_cons_succ, List.set_cons_zero]) | go_big_quiet_step ((first | (go_at_call 17; with_reducible exact quiet_grow (c_REqT (ZA.out _).mls (ZM.out _).mls HBD.out)) | (go_at_call 17; with_reducible exact quiet_grow (c_REqT (ZB.out _).mls (ZM.out _).mls HBD.out)))))
        refine wpQuiet_nil ?_
        rintro _ ⟨z, rfl⟩
        have hb := grow_below W z
        generalize grow W z = wz at hb ⊢
        rw [HW.out] at hb
        have hBz := (BEL.out _ HF.out).next hb
        clear HW HBz hneW
        go_wp2_with fail
        go_ret
        exact ⟨rfl, hBz⟩
end Go.Proofs.YtmccbgnonmgbeaaDoor
