/- The walk of the law DebuggerNone. -/
import Derived.Test.YtfpcblgkcbfdoaaDoorDbY
set_option linter.unusedVariables false
set_option linter.unusedSimpArgs false
set_option maxRecDepth 100000
namespace Go.Proofs.YtfpcblgkcbfdoaaDoor
open Go.RowKit Bk
set_option maxHeartbeats 16000000 in
theorem c_lawDebuggerNone (A : Option Addr) (n cap : Nat) (im : Img) (M : Mach) (vm vs vc vi vo : Value) (sv : List Value) (w : World) (hC : Rd w (· < w.heap.size) 5 A n (codeCells im.code)) (hw : CodeWf im.code) (hL : MLs w (· < w.heap.size) M vm vs vc vi vo sv) (hwf : MWf M) (hl : ∀ l ∈ M.s, l.length ≤ 17592186043904) (hTab : TableAt w) (x : Int) (hx : I64 x) :
    Calls Tryd.prog 9 #[.agg #[.slice A n cap, .int .i64 im.mem, .int .i64 im.stacks], .agg (mcells M vm vs vc vi vo).toArray, .int .i64 x] w fun e w' => e = .returned (.bool true) ∧ Below w.heap.size w w' := by
  obtain ⟨v, hv⟩ : ∃ v, okD im M = v := ⟨_, rfl⟩
  have HOK := Lib.hid hv; clear hv
  unfold I64 at hx
  have hnn : n = im.code.length := by have := hC.1; rw [codeCells_length] at this; omega
  have HC := Lib.hid hC; have HT := Lib.hid hTab; have HL := Lib.hid hL; have HLL := Lib.hid hl; have HN := Lib.hid hnn; have HWF := Lib.hid hwf
  clear hC hTab hL hl hnn hwf
  go_enter Tryd.func9, Tryd.ntmps9
  go_upto_region 1 with fail
  refine wp_nameY ?_
  intro w1 hw1
  have hB_w1 : Below w.heap.size w w1 := by rw [hw1]; exact (by repeat' (first | (with_reducible assumption) | (with_reducible exact Below.refl _ _) | (with_reducible refine Below.alloc ?_ ?_ _) | (with_reducible refine Bk.drewN_ ?_ _) | (with_reducible refine Below.drew ?_) | (with_reducible refine Below.setCell ?_ ?_ _) | go_size))
  have K_1 : Blk w1 w.heap.size 24 #[.slice A n cap, .int .i64 im.mem, .int .i64 im.stacks] := by rw [hw1]; exact (by repeat' (first | with_reducible assumption | (refine Blk.new' ?_ _ _; simp; done) | refine Blk.alloc ?_ _ | refine Blk.drewN ?_ _ | refine Blk.drew ?_))
  have KM : Blk w1 (w.heap.size + 1) 30 (mcells M vm vs vc vi vo).toArray := by rw [hw1]; exact (by repeat' (first | with_reducible assumption | (refine Blk.new' ?_ _ _; simp; done) | refine Blk.alloc ?_ _ | refine Blk.drewN ?_ _ | refine Blk.drew ?_))
  have HM := Lib.hid ((HL.out.next hB_w1).at_ KM)
  have zz : w1.heap.size = w.heap.size + 2 := by rw [hw1]; simp
  clear hw1 KM
  obtain ⟨z_1, T_1, F_1⟩ := K_1.open_; have H_1 := Lib.hid K_1; clear K_1
  go_wp2_with fail
  refine (c_awake33 _ (HT.out.next hB_w1)).mono ?_
  rintro e w2 ⟨rfl, hb2⟩
  have hB_w2 := hB_w1.next hb2
  replace HM := Lib.hid (HM.out.next hb2)
  have K_1 : Blk w2 (w.heap.size) 24 #[.slice A n cap, .int .i64 im.mem, .int .i64 im.stacks] := Blk.next (by repeat' (first | with_reducible exact H_1.out | with_reducible exact K0_1 | (refine Blk.new' ?_ _ _; simp; done) | with_reducible refine Blk.alloc ?_ _ | with_reducible refine Blk.drewN ?_ _ | with_reducible refine Blk.drew ?_)) hb2; (try clear H_1); (try clear T_1); (try clear z_1); (try clear F_1); obtain ⟨z_1, T_1, F_1⟩ := K_1.open_; have H_1 := Lib.hid K_1; clear K_1
  have z2 := hb2.size
  clear hb2
  have H2_1 := Lib.hid H_1.out
  clear T_1 z_1 F_1 H_1
  go_wp2_with fail
  refine (c_DNextNil _).mono ?_
  rintro e w3 ⟨rfl, hb3⟩
  go_upto_region 5 with fail
  refine wp_nameY ?_
  intro w4 hw4
  have hb4 : Below w3.heap.size w3 w4 := by rw [hw4]; exact (by repeat' (first | (with_reducible assumption) | (with_reducible exact Below.refl _ _) | (with_reducible refine Below.alloc ?_ ?_ _) | (with_reducible refine Bk.drewN_ ?_ _) | (with_reducible refine Below.drew ?_) | (with_reducible refine Below.setCell ?_ ?_ _) | go_size))
  have KN : Hid (Blk w4 w3.heap.size 38 #[.int .u8 0, .int .i64 0, .int .i64 0, .int .i64 0, .int .i64 0]) := Lib.hid (by rw [hw4]; exact (by repeat' (first | with_reducible assumption | (refine Blk.new' ?_ _ _; simp; done) | refine Blk.alloc ?_ _ | refine Blk.drewN ?_ _ | refine Blk.drew ?_)))
  have HBC := Lib.hid (hb3.next hb4)
  clear hw4 hb3 hb4
  go_wp2_with fail
  refine (c_DMachineNil _).mono ?_
  rintro e w5 ⟨rfl, hb5⟩
  replace KN := Lib.hid (KN.out.next hb5); replace HBC := Lib.hid (HBC.out.next hb5)
  clear hb5
  go_upto_region 6 with (refine wpList_store_row rfl 30 (.tmp 10) (.tmp 20) rfl w5.heap.size _ rfl rfl 30 #[.int .i64 0, .int .i64 0, .int .i64 0, .int .i64 0, .int .i64 0, .int .i64 0, .int .i64 0, .int .i64 0, .int .i64 0, .int .i64 0, .int .i64 0, .int .i64 0, .int .i64 0, .int .i64 0, .int .i64 0, .int .i64 0, .int .i64 0, .int .i64 0, .slice none 0 0, .slice none 0 0, .slice none 0 0, .int .i64 0, .int .i64 0, .slice none 0 0, .slice none 0 0] (heap_alloc_new w5 _) (by rw [info_mach25]; rfl) rfl (by simp [Value.oneCell']) ?_; simp only [Act.put, List.setIfInBounds_toArray, List.set_cons_succ, List.set_cons_zero])
  refine wp_nameY ?_
  intro w6 hw6
  rw [World.setRow_alloc_new] at hw6
  have hb6 : Below w5.heap.size w5 w6 := by rw [hw6]; exact (by repeat' (first | (with_reducible assumption) | (with_reducible exact Below.refl _ _) | (with_reducible refine Below.alloc ?_ ?_ _) | (with_reducible refine Bk.drewN_ ?_ _) | (with_reducible refine Below.drew ?_) | (with_reducible refine Below.setCell ?_ ?_ _) | go_size))
  have HK : Hid (Blk w6 w5.heap.size 30 #[.int .i64 0, .int .i64 0, .int .i64 0, .int .i64 0, .int .i64 0, .int .i64 0, .int .i64 0, .int .i64 0, .int .i64 0, .int .i64 0, .int .i64 0, .int .i64 0, .int .i64 0, .int .i64 0, .int .i64 0, .int .i64 0, .int .i64 0, .int .i64 0, .slice none 0 0, .slice none 0 0, .slice none 0 0, .int .i64 0, .int .i64 0, .slice none 0 0, .slice none 0 0]) := Lib.hid (by rw [hw6]; exact Blk.new _ _ _)
  replace KN := Lib.hid (KN.out.next hb6); replace HBC := Lib.hid (HBC.out.next hb6)
  clear hw6 hb6
  go_wp2_with fail
  refine (c_DStepNil _).mono ?_
  rintro e w7 ⟨rfl, hb7⟩
  replace HK := Lib.hid (HK.out.next hb7); replace KN := Lib.hid (KN.out.next hb7); replace HBC := Lib.hid (HBC.out.next hb7)
  clear hb7
  go_wp2_with fail
  refine (c_DBackNil _).mono ?_
  rintro e w8 ⟨rfl, hb8⟩
  replace HK := Lib.hid (HK.out.next hb8); replace KN := Lib.hid (KN.out.next hb8); replace HBC := Lib.hid (HBC.out.next hb8)
  clear hb8
  go_wp2_with fail
  refine (c_DSeekNil _ _).mono ?_
  rintro e w9 ⟨rfl, hb9⟩
  replace HK := Lib.hid (HK.out.next hb9); replace KN := Lib.hid (KN.out.next hb9); replace HBC := Lib.hid (HBC.out.next hb9)
  clear hb9
  go_wp2_with fail
  refine (c_DFinishNil _ _).mono ?_
  rintro e w10 ⟨rfl, hb10⟩
  replace HK := Lib.hid (HK.out.next hb10); replace KN := Lib.hid (KN.out.next hb10); replace HBC := Lib.hid (HBC.out.next hb10)
  clear hb10
  go_wp2_with fail
  refine (c_DTimeNil _).mono ?_
  rintro e w11 ⟨rfl, hb11⟩
  replace HK := Lib.hid (HK.out.next hb11); replace KN := Lib.hid (KN.out.next hb11); replace HBC := Lib.hid (HBC.out.next hb11)
  clear hb11
  have c1 : w11.cell? ⟨w5.heap.size, 1, none⟩ = some (.int .i64 0) := HK.out.cell 1
  have c18 : w11.cell? ⟨w5.heap.size, 18, none⟩ = some (.slice none 0 0) := HK.out.cell 18
  have zk := HK.out.lt
  obtain ⟨z_8, T_8, F_8⟩ := KN.out.open_
  go_upto_region 8 with fail
  clear c1 c18 z_8 T_8 F_8
  have hB_w11 := hB_w2.next HBC.out
  have K_1 : Blk w11 w.heap.size 24 #[.slice A n cap, .int .i64 im.mem, .int .i64 im.stacks] := H2_1.out.next HBC.out
  have HM := Lib.hid (HM.out.next HBC.out)
  obtain ⟨z_1, T_1, F_1⟩ := K_1.open_; have H_1 := Lib.hid K_1; clear K_1
  go_wp2_with (refine wpList_loadG 30 rfl rfl rfl (load_mach HM.out) ?_; simp only [Act.put, List.setIfInBounds_toArray, List.set_cons_succ, List.set_cons_zero])
  cases v with
  | false =>
    refine (c_MadeNone A n cap im M vm vs vc vi vo sv w11 (Rd.upL HC.out hB_w11) hw (MLs.up HL.out hB_w11) HWF.out HLL.out (HT.out.next hB_w11) HOK.out).mono ?_
    rintro e w12 ⟨rfl, hb12⟩
    have hB_w12 := hB_w11.next hb12
    clear hb12
    go_wp2_with fail
    go_ret
    exact ⟨rfl, hB_w12⟩
  | true =>
    refine (c_MadeOk A n cap im M vm vs vc vi vo sv w11 (Rd.upL HC.out hB_w11) hw (MLs.up HL.out hB_w11) HWF.out HLL.out (HT.out.next hB_w11) HOK.out).mono ?_
    rintro e w12 ⟨P, A', n', cap', rfl, hV, hA, hO, hfx, hR, hb12⟩
    have hB_w12 := hB_w11.next hb12
    replace HM := Lib.hid (HM.out.next hb12)
    have K_1 : Blk w12 (w.heap.size) 24 #[.slice A n cap, .int .i64 im.mem, .int .i64 im.stacks] := Blk.next (by repeat' (first | with_reducible exact H_1.out | with_reducible exact K0_1 | (refine Blk.new' ?_ _ _; simp; done) | with_reducible refine Blk.alloc ?_ _ | with_reducible refine Blk.drewN ?_ _ | with_reducible refine Blk.drew ?_)) hb12; (try clear H_1); (try clear T_1); (try clear z_1); (try clear F_1); obtain ⟨z_1, T_1, F_1⟩ := K_1.open_; have H_1 := Lib.hid K_1; clear K_1
    obtain ⟨hg, hck, hf⟩ := okD.facts HOK.out
    have hsm := Sm25.of hg
    have HVE : Hid (VEnv im M 1) := Lib.hid (VEnv.sm hsm hck hw HWF.out hf (by decide))
    have HSM := Lib.hid hsm
    have HV := Lib.hid hV; have HA := Lib.hid hA; have HO := Lib.hid hO; have HFX := Lib.hid hfx; have HR := Lib.hid hR
    have z12 := hb12.size
    have zb11 := hB_w11.size
    have BEL : Hid (∀ wz, Fr P.O w12 wz → Below w.heap.size w wz) := Lib.hid fun wz hf => hB_w12.trans (hf.below (B := w.heap.size) (by omega) (fun k hk => by have := (hO k hk).1; omega))
    have HNO : Hid (∀ k, k < w11.heap.size → ¬ P.O k) := Lib.hid fun k hk ho => by have := (hO k ho).1; omega
    have HM12 := Lib.hid HM.out
    have H12_1 := Lib.hid H_1.out
    clear hV hA hO hfx hR hb12 hg hck hf hsm HM
    clear T_1 z_1 F_1 H_1
    by_cases h0 : 0 ≤ x
    · have h0' : ¬ x < 0 := by omega
      go_wp2_with fail
      go_ret
      exact ⟨rfl, hB_w12⟩
    · have h0' : x < 0 := by omega
      go_upto_region 11 with fail
      refine wp_region_held_drew (S := fun W => Below w12.heap.size w12 W) (by kernel_rfl) ((Below.refl _ _).drew) (fun hH => ?_)
      refine wpAnyH_take (i := 0) (v := ?_) rfl (by kernel_rfl) (by kernel_rfl) (by kernel_rfl) (fun _ _ _ h => h) (Or.inl ⟨by rfl, ?hy⟩) hH ?_
      case hy => (intro w9_ hS9; clear hS9; go_simp; try with_reducible rfl)
      (try simp only [List.getElem_toArray, List.getElem_cons_zero, List.getElem_cons_succ, Act.put, List.setIfInBounds_toArray, List.set_cons_zero, List.set_cons_succ])
      refine wpAnyH_take (i := 1) (v := ?_) rfl (by kernel_rfl) (by kernel_rfl) (by kernel_rfl) (fun _ _ _ h => h) (Or.inl ⟨by rfl, ?hy⟩) hH ?_
      case hy => (intro w9_ hS9; clear hS9; go_simp; try with_reducible rfl)
      (try simp only [List.getElem_toArray, List.getElem_cons_zero, List.getElem_cons_succ, Act.put, List.setIfInBounds_toArray, List.set_cons_zero, List.set_cons_succ])
      refine wpAnyH_ready (rs := [2]) (by kernel_rfl) (by simp) ?_
      refine AllReadyH.cons rfl (fun K hK => ?_) (AllReadyH.nil)
      go_simp
      refine (show Calls Tryd.prog 13 #[.pointer (some ⟨P.b, 0, none⟩), _] _ _ from c_SeekNeg x h0').mono ?_
      rintro e w13 ⟨rfl, hbw13⟩
      replace hH := hH.next hbw13
      clear hbw13
      refine hK.out _ _ hH (fun _ => ?_)
      clear hK
      (try simp only [List.getElem_toArray, List.getElem_cons_zero, List.getElem_cons_succ, Act.put, List.setIfInBounds_toArray, List.set_cons_zero, List.set_cons_succ])
      refine wpAnyH_take (i := 3) (v := ?_) rfl (by kernel_rfl) (by kernel_rfl) (by kernel_rfl) (fun _ _ _ h => h) (Or.inl ⟨by rfl, ?hy⟩) hH ?_
      case hy => (intro w9_ hS9; clear hS9; go_simp; try with_reducible rfl)
      (try simp only [List.getElem_toArray, List.getElem_cons_zero, List.getElem_cons_succ, Act.put, List.setIfInBounds_toArray, List.set_cons_zero, List.set_cons_succ])
      refine wpAnyH_take (i := 4) (v := ?_) rfl (by kernel_rfl) (by kernel_rfl) (by kernel_rfl) (fun _ _ _ h => h) (Or.inl ⟨by rfl, ?hy⟩) hH ?_
      case hy => (intro w9_ hS9; clear hS9; go_simp; try with_reducible rfl)
      (try simp only [List.getElem_toArray, List.getElem_cons_zero, List.getElem_cons_succ, Act.put, List.setIfInBounds_toArray, List.set_cons_zero, List.set_cons_succ])
      refine wpAnyH_take (i := 5) (v := ?_) rfl (by kernel_rfl) (by kernel_rfl) (by kernel_rfl) (fun _ _ _ h => h) (Or.inl ⟨by rfl, ?hy⟩) hH ?_
      case hy => (intro w9_ hS9; clear hS9; go_simp; try with_reducible rfl)
      (try simp only [List.getElem_toArray, List.getElem_cons_zero, List.getElem_cons_succ, Act.put, List.setIfInBounds_toArray, List.set_cons_zero, List.set_cons_succ])
      refine wpAnyH_ready (rs := [6]) (by kernel_rfl) (by simp) ?_
      refine AllReadyH.cons rfl (fun K hK => ?_) (AllReadyH.nil)
      go_simp
      refine (show Calls Tryd.prog 21 _ _ (fun e w' => e = .returned (.int .i64 0) ∧ _) from c_DTime (HV.out.next hH) (HA.out.next hH)).mono ?_
      rintro e w14 ⟨rfl, hbw14⟩
      replace hH := hH.next hbw14
      clear hbw14
      refine hK.out _ _ hH (fun _ => ?_)
      clear hK
      (try simp only [List.getElem_toArray, List.getElem_cons_zero, List.getElem_cons_succ, Act.put, List.setIfInBounds_toArray, List.set_cons_zero, List.set_cons_succ])
      refine wpAnyH_take (i := 7) (v := ?_) rfl (by kernel_rfl) (by kernel_rfl) (by kernel_rfl) (fun _ _ _ h => h) (Or.inl ⟨by rfl, ?hy⟩) hH ?_
      case hy => (intro w9_ hS9; clear hS9; go_simp; try with_reducible rfl)
      (try simp only [List.getElem_toArray, List.getElem_cons_zero, List.getElem_cons_succ, Act.put, List.setIfInBounds_toArray, List.set_cons_zero, List.set_cons_succ])
      refine wpAnyH_take (i := 8) (v := ?_) rfl (by kernel_rfl) (by kernel_rfl) (by kernel_rfl) (fun _ _ _ h => h) (Or.inl ⟨by rfl, ?hy⟩) hH ?_
      case hy => (intro w9_ hS9; clear hS9; go_simp; try with_reducible rfl)
      (try simp only [List.getElem_toArray, List.getElem_cons_zero, List.getElem_cons_succ, Act.put, List.setIfInBounds_toArray, List.set_cons_zero, List.set_cons_succ])
      refine wpAnyH_take (i := 9) (v := ?_) rfl (by kernel_rfl) (by kernel_rfl) (by kernel_rfl) (fun _ _ _ h => h) (Or.inl ⟨by rfl, ?hy⟩) hH ?_
      case hy => (intro w9_ hS9; clear hS9; go_simp; try with_reducible rfl)
      (try simp only [List.getElem_toArray, List.getElem_cons_zero, List.getElem_cons_succ, Act.put, List.setIfInBounds_toArray, List.set_cons_zero, List.set_cons_succ])
      refine wpAnyH_take (i := 10) (v := ?_) rfl (by kernel_rfl) (by kernel_rfl) (by kernel_rfl) (fun _ _ _ h => h) (Or.inl ⟨by rfl, ?hy⟩) hH ?_
      case hy => (intro w9_ hS9; clear hS9; go_simp; try with_reducible rfl)
      (try simp only [List.getElem_toArray, List.getElem_cons_zero, List.getElem_cons_succ, Act.put, List.setIfInBounds_toArray, List.set_cons_zero, List.set_cons_succ])
      refine wpAnyH_take (i := 12) (v := _) rfl (by kernel_rfl) (by kernel_rfl) (by kernel_rfl) (fun _ _ _ h => h) (Or.inl ⟨by rfl, yields_load 30 (x := .tmp 4) rfl rfl (fun W hW => load_mach (HM12.out.next hW))⟩) hH ?_
      (try simp only [List.getElem_toArray, List.getElem_cons_zero, List.getElem_cons_succ, Act.put, List.setIfInBounds_toArray, List.set_cons_zero, List.set_cons_succ])
      refine wpAnyH_ready (rs := [11]) (by kernel_rfl) (by simp) ?_
      refine AllReadyH.cons rfl (fun K hK => ?_) (AllReadyH.nil)
      go_simp
      refine (c_DMachine (HV.out.next hH) HVE.out (j := 0) (by omega) (HA.out.next hH)).mono ?_
      rintro e wz ⟨vmz, vsz, vcz, viz, voz, svz, rfl, hOz, hbz⟩
      have HOz := Lib.hid hOz
      replace hH := hH.next hbz
      clear hOz hbz
      refine hK.out _ _ hH (fun _ => ?_)
      clear hK
      (try simp only [List.getElem_toArray, List.getElem_cons_zero, List.getElem_cons_succ, Act.put, List.setIfInBounds_toArray, List.set_cons_zero, List.set_cons_succ])
      refine wpAnyH_ready (rs := [13]) (by kernel_rfl) (by simp) ?_
      refine AllReadyH.cons rfl (fun K hK => ?_) (AllReadyH.nil)
      go_simp
      refine (c_same33 HOz.out.mls (HL.out.keep (D' := (· < w.heap.size)) (fun b o hd => (hB_w12.next hH).cell (p := ⟨b, o, none⟩) hd) (fun _ h => h) (fun k hk => Nat.lt_of_lt_of_le hk (hB_w12.next hH).size)) (HVE.out.bd 0 (by omega))).mono ?_
      rintro e w16 ⟨rfl, hbw16⟩
      replace hH := hH.next hbw16
      clear hbw16
      refine hK.out _ _ hH (fun _ => ?_)
      clear hK
      (try simp only [List.getElem_toArray, List.getElem_cons_zero, List.getElem_cons_succ, Act.put, List.setIfInBounds_toArray, List.set_cons_zero, List.set_cons_succ])
      refine wpAnyH_take (i := 14) (v := ?_) rfl (by kernel_rfl) (by kernel_rfl) (by kernel_rfl) (fun _ _ _ h => h) (Or.inl ⟨by rfl, ?hy⟩) hH ?_
      case hy => (intro w9_ hS9; clear hS9; go_simp; try with_reducible rfl)
      (try simp only [List.getElem_toArray, List.getElem_cons_zero, List.getElem_cons_succ, Act.put, List.setIfInBounds_toArray, List.set_cons_zero, List.set_cons_succ])
      refine wpAnyH_take (i := 15) (v := ?_) rfl (by kernel_rfl) (by kernel_rfl) (by kernel_rfl) (fun _ _ _ h => h) (Or.inl ⟨by rfl, ?hy⟩) hH ?_
      case hy => (intro w9_ hS9; clear hS9; go_simp; try with_reducible rfl)
      (try simp only [List.getElem_toArray, List.getElem_cons_zero, List.getElem_cons_succ, Act.put, List.setIfInBounds_toArray, List.set_cons_zero, List.set_cons_succ])
      refine wpAnyH_done (by kernel_rfl) ?_ _
      go_wp2_with fail
      go_ret
      exact ⟨rfl, hB_w12.next hH⟩
end Go.Proofs.YtfpcblgkcbfdoaaDoor
