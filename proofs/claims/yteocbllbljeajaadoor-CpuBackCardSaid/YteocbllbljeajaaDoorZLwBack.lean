/- The walk of the law CpuBack. -/
import Derived.Test.YteocbllbljeajaaDoorZRdC
import Derived.Test.YteocbllbljeajaaDoorZREq
set_option linter.unusedVariables false
set_option linter.unusedSimpArgs false
set_option maxRecDepth 100000
set_option maxHeartbeats 8000000
namespace Go.Proofs.YteocbllbljeajaaDoor
open Go.RowKit Bk
/-- The machine of a block of one's own, in place; its direction stored anew. -/
theorem at_dir {w2 w3 : World} {B : Nat} {M : Mach} {vm vs vc vi vo : Value} {sv : List Value} (hO : MOwn w2 B M vm vs vc vi vo sv) (hB : B ≤ w2.heap.size) (hb3 : Below w2.heap.size w2 w3) (K : Blk w3 w2.heap.size 30 (mcells M vm vs vc vi vo).toArray) :
    (∀ v, MRd (w3.setCell ⟨w2.heap.size, 1, none⟩ (.int .i64 v)) (fun k => B ≤ k ∧ k < w3.heap.size) w2.heap.size 0 { M with dir := v } vm vs vc vi vo sv) ∧ w3.cell? ⟨w2.heap.size, 1, none⟩ = some (.int .i64 M.dir) ∧ w3.frozen? ⟨w2.heap.size, 1, none⟩ = false := by
  have hs := hb3.size; have hlt := K.lt
  refine ⟨fun v => ?_, (K.cell 1).trans rfl, K.frozen 1⟩
  have hf : Fr (· = w2.heap.size) w3 (w3.setCell ⟨w2.heap.size, 1, none⟩ (.int .i64 v)) := Fr.set (O := (· = w2.heap.size)) (p := ⟨w2.heap.size, 1, none⟩) (Fr.refl _ _) rfl _
  have hL := hO.mls.next hb3
  have hk : ∀ b o, (B ≤ b ∧ b < w2.heap.size) → (w3.setCell ⟨w2.heap.size, 1, none⟩ (.int .i64 v)).cell? ⟨b, o, none⟩ = w3.cell? ⟨b, o, none⟩ := fun b o hd => hf.cell (by omega) (by omega) o
  have hD : ∀ k, (B ≤ k ∧ k < w2.heap.size) → B ≤ k ∧ k < w3.heap.size := fun k hk => ⟨hk.1, by omega⟩
  have hK : Blk (w3.setCell ⟨w2.heap.size, 1, none⟩ (.int .i64 v)) w2.heap.size 30 (mcells { M with dir := v } vm vs vc vi vo).toArray := by
    have := K.set_ 1 (.int .i64 v); simpa [mcells] using this
  have hz : (w3.setCell ⟨w2.heap.size, 1, none⟩ (.int .i64 v)).heap.size = w3.heap.size := by simp [World.setCell]
  exact MLs.at_ ⟨hL.rl, hL.m.keep hk hD, hL.s.keep hk hD, ⟨hL.l.1.keep hk hD, hL.l.2.1.keep hk hD, hL.l.2.2.1.keep hk hD, hL.l.2.2.2.keep hk hD⟩, fun k h => by rw [hz]; exact h.2⟩ hK
theorem c_lawCpuBack (A : Option Addr) (n cap : Nat) (im : Img) (M : Mach) (vm vs vc vi vo : Value) (sv : List Value) (w : World) (hC : Rd w (· < w.heap.size) 5 A n (codeCells im.code)) (hw : CodeWf im.code) (hL : MLs w (· < w.heap.size) M vm vs vc vi vo sv) (hwf : MWf M) (hl : ∀ l ∈ M.s, l.length ≤ 17592186043904) (hTab : TableAt w) :
    Calls Tryd.prog 4 #[.agg #[.slice A n cap, .int .i64 im.mem, .int .i64 im.stacks], .agg (mcells M vm vs vc vi vo).toArray] w fun e w' => e = .returned (.bool true) ∧ Below w.heap.size w w' := by
  have hn : n = im.code.length := by have := hC.1; rw [codeCells_length] at this; omega
  obtain ⟨v, hv⟩ : ∃ v, okB im M = v := ⟨_, rfl⟩
  have HC := Lib.hid hC; have HT := Lib.hid hTab; have HL := Lib.hid hL; have HLL := Lib.hid hl; have HN := Lib.hid hn; have HV := Lib.hid hv; have HWF := Lib.hid hwf
  clear hC hTab hL hl hn hv hwf
  go_enter Tryd.func4, Tryd.ntmps4
  go_upto_region 1 with fail
  refine wp_nameY ?_
  intro w1 hw1
  have hB_w1 : Below w.heap.size w w1 := by rw [hw1]; exact (by go_grown)
  have K_1 : Blk w1 w.heap.size 24 #[.slice A n cap, .int .i64 im.mem, .int .i64 im.stacks] := by rw [hw1]; exact (by repeat' (first | assumption | exact Blk.new' (by simp) _ _ | apply Blk.alloc | apply Blk.drew))
  have KM : Blk w1 (w.heap.size + 1) 30 (mcells M vm vs vc vi vo).toArray := by rw [hw1]; exact (by repeat' (first | assumption | exact Blk.new' (by simp) _ _ | apply Blk.alloc | apply Blk.drew))
  have HM := Lib.hid ((HL.out.next hB_w1).at_ KM)
  have zz : w1.heap.size = w.heap.size + 2 := by rw [hw1]; simp
  clear hw1 KM
  obtain ⟨z_1, T_1, F_1⟩ := K_1.open_; have H_1 := Lib.hid K_1; clear K_1
  go_wp2_with fail
  refine (c_awake24 _ (HT.out.next hB_w1)).mono ?_
  rintro e w2 ⟨rfl, hb2⟩
  have hB_w2 := hB_w1.next hb2
  replace HM := Lib.hid (HM.out.next hb2)
  have K_1 := H_1.out.next hb2; (try clear H_1); (try clear T_1); (try clear z_1); (try clear F_1); obtain ⟨z_1, T_1, F_1⟩ := K_1.open_; have H_1 := Lib.hid K_1; clear K_1
  have z2 := hb2.size
  clear hb2
  go_wp2_with (refine wpList_loadG 30 rfl rfl rfl (load_mach HM.out) ?_; simp only [Act.put, Bk.PU])
  refine (c_fits24 (HL.out.next hB_w2) A n cap im HN.out HLL.out (HC.out.next hB_w2) hw (HT.out.next hB_w2) HV.out).mono ?_
  rintro e w3 ⟨rfl, hb3⟩
  have hB_w3 := hB_w2.next hb3
  replace HM := Lib.hid (HM.out.next hb3)
  have K_1 := H_1.out.next hb3; (try clear H_1); (try clear T_1); (try clear z_1); (try clear F_1); obtain ⟨z_1, T_1, F_1⟩ := K_1.open_; have H_1 := Lib.hid K_1; clear K_1
  have z3 := hb3.size
  clear hb3
  cases v with
  | false =>
    go_wp2_with fail
    refine (c_awake24 _ (HT.out.next hB_w3)).mono ?_
    rintro e w4 ⟨rfl, hb4⟩
    have hB_w4 := hB_w3.next hb4
    go_wp2_with fail
    go_ret
    exact ⟨rfl, hB_w4⟩
  | true =>
    obtain ⟨hck, hfit, hsb, h100⟩ := ok_facts HWF.out HV.out
    have hbd : MBd M := MBd.of hck hfit hsb (by omega)
    have HCK := Lib.hid hck; have HFIT := Lib.hid hfit; have HSB := Lib.hid hsb; have HBD := Lib.hid hbd
    clear hck hfit hsb hbd
    obtain ⟨ff, N, hst⟩ : ∃ ff N, Bk.step im.code M.turn = (ff, N) := ⟨_, _, rfl⟩
    have HST := Lib.hid hst
    have eN : N = (Bk.step im.code M.turn).2 := by rw [hst]
    have hfN : Fit im N := by rw [eN]; exact Fit_step HCK.out hw HFIT.out.turn
    have hbN : MBd N := by
      rw [eN]; exact MBd.of HCK.out (by rw [← eN]; exact hfN) (SB.step (SB.turn HSB.out) im.code) (by omega)
    have HBN := Lib.hid hbN; have HFN := Lib.hid hfN
    clear hst hbN eN hfN
    go_wp2_with (refine wpList_loadG 30 rfl rfl rfl (load_mach HM.out) ?_; simp only [Act.put, Bk.PU])
    refine (c_RCopy HM.out.mls HBD.out.ln).mono ?_
    rintro e w4 ⟨vm4, vs4, vc4, vi4, vo4, sv4, rfl, hO, hb4⟩
    have hB_w4 := hB_w3.next hb4
    replace HM := Lib.hid (HM.out.next hb4)
    have K_1 := H_1.out.next hb4; (try clear H_1); (try clear T_1); (try clear z_1); (try clear F_1); obtain ⟨z_1, T_1, F_1⟩ := K_1.open_; have H_1 := Lib.hid K_1; clear K_1
    have z4 := hb4.size
    clear hb4
    have hone : ∀ v ∈ mcells M vm4 vs4 vc4 vi4 vo4, v.oneCell' = true := by
      have h' := hO.mls
      obtain ⟨_, _, rfl, _⟩ := h'.m; obtain ⟨_, _, rfl, _⟩ := h'.s; obtain ⟨_, _, rfl, _⟩ := h'.l.2.1; obtain ⟨_, _, rfl, _⟩ := h'.l.2.2.1; obtain ⟨_, _, rfl, _⟩ := h'.l.2.2.2
      exact mc_one rfl rfl rfl rfl rfl
    have HLEN := Lib.hid (mc_len M vm4 vs4 vc4 vi4 vo4 hO.1); have HONE := Lib.hid hone; have HO := Lib.hid hO
    clear hone hO
    go_upto_region 4 with (refine wpList_store_row rfl 30 (.tmp 5) (.tmp 20) rfl w4.heap.size (mcells M vm4 vs4 vc4 vi4 vo4).toArray rfl rfl 30 #[.int .i64 0, .int .i64 0, .int .i64 0, .int .i64 0, .int .i64 0, .int .i64 0, .int .i64 0, .int .i64 0, .int .i64 0, .int .i64 0, .int .i64 0, .int .i64 0, .int .i64 0, .int .i64 0, .int .i64 0, .int .i64 0, .int .i64 0, .int .i64 0, .slice none 0 0, .slice none 0 0, .slice none 0 0, .int .i64 0, .int .i64 0, .slice none 0 0, .slice none 0 0] (heap_alloc_new w4 _) (by rw [info_mach25]; simp [HLEN.out]) (by simp [HLEN.out]) (all_oneCell_toArray HONE.out) ?_; simp only [Act.put, Bk.PU])
    refine wp_nameY ?_
    intro w5 hw5
    rw [World.setRow_alloc_new] at hw5
    have hb5 : Below w4.heap.size w4 w5 := by rw [hw5]; exact (Below.refl _ _).alloc (Nat.le_refl _) _
    have KW : Blk w5 w4.heap.size 30 (mcells M vm4 vs4 vc4 vi4 vo4).toArray := by rw [hw5]; exact Blk.new _ _ _
    have hB_w5 := hB_w4.next hb5
    obtain ⟨hT5, e1, f1⟩ := at_dir HO.out z4 hb5 KW
    have HT5 := Lib.hid hT5
    have z5 := KW.lt
    replace HM := Lib.hid (HM.out.next hb5)
    have K_1 := H_1.out.next hb5; (try clear H_1); (try clear T_1); (try clear z_1); (try clear F_1); obtain ⟨z_1, T_1, F_1⟩ := K_1.open_; have H_1 := Lib.hid K_1; clear K_1
    obtain ⟨dd, hdd⟩ : ∃ dd, M.dir = dd := ⟨_, rfl⟩
    have hd := HFIT.out.d
    rw [hdd] at hd e1
    have d0 : -1 ≤ dd := by omega
    have d1 : dd ≤ 1 := by omega
    have HDD := Lib.hid hdd
    clear hb5 hw5 KW HLEN HONE HO hT5 hdd hd
    go_upto_region 5 with fail
    refine wp_nameY ?_
    intro w6 hw6
    have hT6 := HT5.out (-dd)
    rw [← hw6] at hT6
    have hf6 : Fr (· = w4.heap.size) w5 w6 := by rw [hw6]; exact Fr.set (O := (· = w4.heap.size)) (p := ⟨w4.heap.size, 1, none⟩) (Fr.refl _ _) rfl _
    have hT6' : MRd w6 (fun k => w3.heap.size ≤ k ∧ k < w5.heap.size) w4.heap.size 0 M.turn vm4 vs4 vc4 vi4 vo4 sv4 := by have h := hT6; rw [← HDD.out] at h; exact h
    have HT6 := Lib.hid hT6'
    have hB_w6 : Below w.heap.size w w6 := hB_w5.trans (hf6.below (B := w.heap.size) hB_w5.size (fun k hk => by omega))
    have K_1 := hf6.blk H_1.out (by omega)
    replace HM := Lib.hid (HM.out.fr hf6 (by omega) (fun k hk => by omega))
    have z6 := hf6.size
    clear hw6 hT6 hT6' hf6 HT5 e1 f1 T_1 z_1 F_1 H_1
    obtain ⟨z_1, T_1, F_1⟩ := K_1.open_; have H_1 := Lib.hid K_1; clear K_1
    go_wp2_with (refine wpList_loadG 30 rfl rfl rfl (load_mach HT6.out) ?_; simp only [Act.put, Bk.PU])
    refine (RSt.of (c_RStep HT6.out.mls cap im.mem im.stacks ((HC.out.keep fun b o hd => hB_w6.cell (p := ⟨b, o, none⟩) hd).mono fun k hk => Nat.lt_of_lt_of_le hk hB_w6.size) hw (HT.out.next hB_w6) (by omega) (MBd.turn HBD.out) HCK.out HFIT.out.turn) HST.out.symm).mono ?_
    rintro e w7 ⟨N4, vm7, vs7, vc7, vi7, vo7, sv7, rfl, hO, hb7, hN4⟩
    have hB_w7 := hB_w6.next hb7
    replace HM := Lib.hid (HM.out.next hb7)
    have K_1 := H_1.out.next hb7; (try clear H_1); (try clear T_1); (try clear z_1); (try clear F_1); obtain ⟨z_1, T_1, F_1⟩ := K_1.open_; have H_1 := Lib.hid K_1; clear K_1
    have z7 := hb7.size
    have HN4 := Lib.hid hN4
    clear hb7 hN4 HT6
    have hone : ∀ v ∈ mcells N4 vm7 vs7 vc7 vi7 vo7, v.oneCell' = true := by
      have h' := hO.mls
      obtain ⟨_, _, rfl, _⟩ := h'.m; obtain ⟨_, _, rfl, _⟩ := h'.s; obtain ⟨_, _, rfl, _⟩ := h'.l.2.1; obtain ⟨_, _, rfl, _⟩ := h'.l.2.2.1; obtain ⟨_, _, rfl, _⟩ := h'.l.2.2.2
      exact mc_one rfl rfl rfl rfl rfl
    have HLEN := Lib.hid (mc_len N4 vm7 vs7 vc7 vi7 vo7 hO.1); have HONE := Lib.hid hone; have HO := Lib.hid hO
    clear hone hO
    go_upto_region 6 with (refine wpList_store_row rfl 30 (.tmp 6) (.tmp 29) rfl w7.heap.size (mcells N4 vm7 vs7 vc7 vi7 vo7).toArray rfl rfl 30 #[.int .i64 0, .int .i64 0, .int .i64 0, .int .i64 0, .int .i64 0, .int .i64 0, .int .i64 0, .int .i64 0, .int .i64 0, .int .i64 0, .int .i64 0, .int .i64 0, .int .i64 0, .int .i64 0, .int .i64 0, .int .i64 0, .int .i64 0, .int .i64 0, .slice none 0 0, .slice none 0 0, .slice none 0 0, .int .i64 0, .int .i64 0, .slice none 0 0, .slice none 0 0] (heap_alloc_new w7 _) (by rw [info_mach25]; simp [HLEN.out]) (by simp [HLEN.out]) (all_oneCell_toArray HONE.out) ?_; simp only [Act.put, Bk.PU])
    refine wp_nameY ?_
    intro w8 hw8
    rw [World.setRow_alloc_new] at hw8
    have hb8 : Below w7.heap.size w7 w8 := by rw [hw8]; exact (Below.refl _ _).alloc (Nat.le_refl _) _
    have KW : Blk w8 w7.heap.size 30 (mcells N4 vm7 vs7 vc7 vi7 vo7).toArray := by rw [hw8]; exact Blk.new _ _ _
    have hB_w8 := hB_w7.next hb8
    obtain ⟨hT8, e1, f1⟩ := at_dir HO.out z7 hb8 KW
    have HT8 := Lib.hid hT8
    have z8 := KW.lt
    replace HM := Lib.hid (HM.out.next hb8)
    have K_1 := H_1.out.next hb8; (try clear H_1); (try clear T_1); (try clear z_1); (try clear F_1); obtain ⟨z_1, T_1, F_1⟩ := K_1.open_; have H_1 := Lib.hid K_1; clear K_1
    obtain ⟨d4, hd4⟩ : ∃ d4, N4.dir = d4 := ⟨_, rfl⟩
    rw [hd4] at e1
    have HD4 := Lib.hid hd4
    clear hb8 hw8 KW HLEN HONE HO hT8 hd4
    go_upto_region 7 with fail
    refine wp_nameY ?_
    intro w9 hw9
    have hf9 : Fr (· = w7.heap.size) w8 w9 := by rw [hw9]; exact Fr.set (O := (· = w7.heap.size)) (p := ⟨w7.heap.size, 1, none⟩) (Fr.refl _ _) rfl _
    have hT9 := HT8.out (wrap64 (-d4))
    rw [← hw9] at hT9
    have HW_ := Lib.hid hT9
    have hB_w9 : Below w.heap.size w w9 := hB_w8.trans (hf9.below (B := w.heap.size) hB_w8.size (fun k hk => by omega))
    have K_1 := hf9.blk H_1.out (by omega)
    replace HM := Lib.hid (HM.out.fr hf9 (by omega) (fun k hk => by omega))
    have z9 := hf9.size
    clear hw9 hT9 hf9 HT8 e1 f1 T_1 z_1 F_1 H_1
    obtain ⟨z_1, T_1, F_1⟩ := K_1.open_; have H_1 := Lib.hid K_1; clear K_1
    go_wp2_with fail
    refine (c_Clone HM.out HBD.out).mono ?_
    rintro e w10 ⟨ba, gma, gsa, rfl, r1, r2, r3, hcl, hb⟩
    have hB_w10 := hB_w9.next hb
    replace HM := Lib.hid (HM.out.next hb)
    replace HW_ := Lib.hid (HW_.out.next hb)
    have K_1 := H_1.out.next hb; (try clear H_1); (try clear T_1); (try clear z_1); (try clear F_1); obtain ⟨z_1, T_1, F_1⟩ := K_1.open_; have H_1 := Lib.hid K_1; clear K_1
    have zn := hb.size
    obtain ⟨Pa, hPa⟩ : ∃ P, P = (⟨ba, 30, [], [], 0, gma, gsa, (· < w9.heap.size)⟩ : Pl) := ⟨_, rfl⟩
    have HA : Hid (MAt w10 Pa M) := Lib.hid (by rw [hPa]; exact hcl)
    have hpab : Pa.b = ba := by rw [hPa]
    have hpao : Pa.off = 0 := by rw [hPa]
    have HOA : Hid (∀ k, Pa.O k → w9.heap.size ≤ k) := Lib.hid fun k ho => by rw [hPa] at ho; rcases ho with e | e | e <;> (dsimp only at e; omega)
    clear hcl hb hPa
    go_wp2_with fail
    obtain ⟨_, _, _, _, _, _, hA⟩ := HA.out
    have hs := c_Back hA cap im (Env.old HC.out hw HT.out (by omega) hB_w10 (fun k hk ho => by have h1 := HOA.out k ho; have h2 := hB_w9.size; omega)) HCK.out HFIT.out HBD.out
    rw [hpab, hpao] at hs
    refine (OnM.of hs (y := (ff, N.turn)) (by rw [HST.out])).mono ?_
    rintro e w11 ⟨rfl, hA7, hf7⟩
    have hBcur : Below w.heap.size w w11 := hB_w10.trans (hf7.below (B := w.heap.size) hB_w10.size (fun k ho => by have h1 := HOA.out k ho; have h2 := hB_w9.size; omega))
    obtain ⟨_, _, _, _, _, _, hRA⟩ := MAt.rd hA7
    rw [hpab, hpao] at hRA
    dsimp only at hRA
    have HRA := Lib.hid hRA
    clear hRA
    have HM7 := Lib.hid (HM.out.fr hf7 (fun ho => by have h1 := HOA.out _ ho; omega) (fun k hk ho => by have h1 := HOA.out _ ho; have h2 := hB_w9.size; omega))
    have HW7 := Lib.hid (HW_.out.fr hf7 (fun ho => by have h1 := HOA.out _ ho; omega) (fun k hk ho => by have h1 := HOA.out _ ho; omega))
    clear T_1 z_1 F_1 H_1 HM HW_ hA7 hf7 hs HA
    clear hA
    have q1 : (ff == ff) = true := by simp
    by_cases h0 : ff = 0
    · have e4 : N4 = N := HN4.out h0
      subst h0
      subst e4
      clear q1
      have HD := HFN.out.d
      have eT : wrap64 (-d4) = -N4.dir := by rw [← HD4.out]; rcases HD with e | e <;> rw [e] <;> decide +kernel
      have HW8 : Hid (MRd w11 _ w7.heap.size 0 N4.turn _ _ _ _ _ _) := Lib.hid (by have h := HW7.out; rw [eT] at h; exact h)
      clear HD eT HW7
      go_wp2_with fail
      refine wp_region_grow (by kernel_rfl) (by kernel_rfl) ?_; intro W hW; have hneW : Nonempty (Grw W) := ⟨⟨W, Below.refl _ _⟩⟩; have HBz := Lib.hid (fun z => Below.next (show Below w.heap.size w W by (rw [hW]; exact (by go_grown))) (grow_below W z))
      have zA := fun z => HRA.out.next (w' := grow W z) (by rw [← hW]; exact grow_below W z)
      have zM := fun z => HW8.out.next (w' := grow W z) (by rw [← hW]; exact grow_below W z)
      have lA := fun z => load_mach (zA z); have lM := fun z => load_mach (zM z)
      have ZA := Lib.hid zA; have ZM := Lib.hid zM
      have HW := Lib.hid hW; clear hW zA zM
      have LA := Lib.hid lA; have LM := Lib.hid lM
      clear lA lM
      repeat (first | (go_big_quiet_want; refine quiet_loadG 30 rfl rfl (LA.out) ?_; go_big_quiet_on; simp only [Act.put, Bk.PU]) | (go_big_quiet_want; refine quiet_loadG 30 rfl rfl (LM.out) ?_; go_big_quiet_on; simp only [Act.put, Bk.PU]) | go_big_quiet_step ((go_at_call 13; with_reducible exact quiet_grow (c_REqT (ZA.out _).mls (ZM.out _).mls (MBd.turn HBN.out)))))
      refine wpQuiet_nil ?_
      rintro _ ⟨z, rfl⟩
      have hb := grow_below W z
      generalize grow W z = wz at hb ⊢
      rw [HW.out] at hb
      have hBz := hBcur.next hb
      clear HW HBz hneW
      go_wp2_with fail
      go_ret
      exact ⟨rfl, hBz⟩
    · have hNM : N.turn = M := by have h := ErrB_step (code := im.code) (M := M.turn) (by rw [HST.out]; exact h0); rw [HST.out] at h; dsimp only at h; rw [h, turn_turn]
      have q0 : (ff != 0) = true := by simpa using h0
      rw [hNM] at HRA
      clear HN4 hNM h0
      go_wp2_with fail
      refine wp_region_grow (by kernel_rfl) (by kernel_rfl) ?_; intro W hW; have hneW : Nonempty (Grw W) := ⟨⟨W, Below.refl _ _⟩⟩; have HBz := Lib.hid (fun z => Below.next (show Below w.heap.size w W by (rw [hW]; exact (by go_grown))) (grow_below W z))
      have zA := fun z => HRA.out.next (w' := grow W z) (by rw [← hW]; exact grow_below W z)
      have zM := fun z => HM7.out.next (w' := grow W z) (by rw [← hW]; exact grow_below W z)
      have lA := fun z => load_mach (zA z); have lM := fun z => load_mach (zM z)
      have ZA := Lib.hid zA; have ZM := Lib.hid zM
      have HW := Lib.hid hW; clear hW zA zM
      have LA := Lib.hid lA; have LM := Lib.hid lM
      clear lA lM
      repeat (first | (go_big_quiet_want; refine quiet_loadG 30 rfl rfl (LA.out) ?_; go_big_quiet_on; simp only [Act.put, Bk.PU]) | (go_big_quiet_want; refine quiet_loadG 30 rfl rfl (LM.out) ?_; go_big_quiet_on; simp only [Act.put, Bk.PU]) | go_big_quiet_step ((go_at_call 13; with_reducible exact quiet_grow (c_REqT (ZA.out _).mls (ZM.out _).mls HBD.out))))
      refine wpQuiet_nil ?_
      rintro _ ⟨z, rfl⟩
      have hb := grow_below W z
      generalize grow W z = wz at hb ⊢
      rw [HW.out] at hb
      have hBz := hBcur.next hb
      clear HW HBz hneW
      go_wp2_with fail
      go_ret
      exact ⟨rfl, hBz⟩
end Go.Proofs.YteocbllbljeajaaDoor
