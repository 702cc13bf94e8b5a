/- The walk of the law DebuggerFinish. -/
import Derived.Test.YtfpcblgkcbfdoaaDoorZDbI
set_option linter.unusedVariables false
set_option linter.unusedSimpArgs false
set_option maxRecDepth 100000
namespace Go.Proofs.YtfpcblgkcbfdoaaDoor
open Go.RowKit Bk
theorem field_calls {M : Mach} {vm vs vc vi vo : Value} (hr : M.r.length = 16) (w : World) : (Instr.field 30 (.agg (mcells M vm vs vc vi vo).toArray) 5).run Tryd.prog w = .ok vc w := by
  obtain ⟨pc, dir, r, m, s, calls, fp, sb, inp, out⟩ := M
  obtain ⟨r0, r1, r2, r3, r4, r5, r6, r7, r8, r9, r10, r11, r12, r13, r14, r15, e⟩ := list16 hr
  dsimp only at e
  subst e
  kernel_rfl
set_option maxHeartbeats 16000000 in
theorem c_lawDebuggerFinish (A : Option Addr) (n cap : Nat) (im : Img) (M : Mach) (vm vs vc vi vo : Value) (sv : List Value) (w : World) (hC : Rd w (· < w.heap.size) 5 A n (codeCells im.code)) (hw : CodeWf im.code) (hL : MLs w (· < w.heap.size) M vm vs vc vi vo sv) (hwf : MWf M) (hl : ∀ l ∈ M.s, l.length ≤ 17592186043904) (hTab : TableAt w) (x : Nat) (hx : x ≤ 255) (y : Nat) (hy : y ≤ 255) :
    Calls Tryd.prog 8 #[.agg #[.slice A n cap, .int .i64 im.mem, .int .i64 im.stacks], .agg (mcells M vm vs vc vi vo).toArray, .int .u8 (x : Int), .int .u8 (y : Int)] w fun e w' => e = .returned (.bool true) ∧ Below w.heap.size w w' := by
  obtain ⟨v, hv⟩ : ∃ v, okD im M = v := ⟨_, rfl⟩
  have HOK := Lib.hid hv; clear hv
  have hwx : IntKind.i64.wrap (x : Int) = (x : Int) := wrap_small _ (by omega) (by omega)
  have hwy : IntKind.i64.wrap (y : Int) = (y : Int) := wrap_small _ (by omega) (by omega)
  obtain ⟨t, ht⟩ : ∃ t : Nat, t = x % 40 := ⟨_, rfl⟩
  have hmod : (x : Int).tmod 40 = (t : Int) := by rw [Int.tmod_eq_emod_of_nonneg (by omega)]; omega
  have ht40 : t < 40 := by omega
  obtain ⟨mo, hmo⟩ : ∃ mo : Nat, mo = y % 61 := ⟨_, rfl⟩
  have hmod2 : (y : Int).tmod 61 = (mo : Int) := by rw [Int.tmod_eq_emod_of_nonneg (by omega)]; omega
  have hmo61 : mo < 61 := by omega
  clear ht hmo
  have hnn : n = im.code.length := by have := hC.1; rw [codeCells_length] at this; omega
  have HC := Lib.hid hC; have HT := Lib.hid hTab; have HL := Lib.hid hL; have HLL := Lib.hid hl; have HN := Lib.hid hnn; have HWF := Lib.hid hwf
  clear hC hTab hL hl hnn hwf
  go_enter Tryd.func8, Tryd.ntmps8
  go_upto_region 1 with fail
  refine wp_nameY ?_
  intro w1 hw1
  have hB_w1 : Below w.heap.size w w1 := by rw [hw1]; exact (by repeat' (first | (with_reducible assumption) | (with_reducible exact Below.refl _ _) | (with_reducible refine Below.alloc ?_ ?_ _) | (with_reducible refine Bk.drewN_ ?_ _) | (with_reducible refine Below.drew ?_) | (with_reducible refine Below.setCell ?_ ?_ _) | go_size))
  have K_1 : Blk w1 w.heap.size 24 #[.slice A n cap, .int .i64 im.mem, .int .i64 im.stacks] := by rw [hw1]; exact (by repeat' (first | with_reducible assumption | (refine Blk.new' ?_ _ _; simp; done) | refine Blk.alloc ?_ _ | refine Blk.drewN ?_ _ | refine Blk.drew ?_))
  have KM : Blk w1 (w.heap.size + 1) 30 (mcells M vm vs vc vi vo).toArray := by rw [hw1]; exact (by repeat' (first | with_reducible assumption | (refine Blk.new' ?_ _ _; simp; done) | refine Blk.alloc ?_ _ | refine Blk.drewN ?_ _ | refine Blk.drew ?_))
  have HM := Lib.hid ((HL.out.next hB_w1).at_ KM)
  have zz : w1.heap.size = w.heap.size + 2 := by rw [hw1]; simp
  clear hw1 KM
  obtain ⟨z_1, T_1, F_1⟩ := K_1.open_; have H_1 := Lib.hid K_1; clear K_1
  go_wp2_with fail
  refine (c_awake33 _ (HT.out.next hB_w1)).mono ?_
  rintro e w2 ⟨rfl, hb2⟩
  have hB_w2 := hB_w1.next hb2
  replace HM := Lib.hid (HM.out.next hb2)
  have K_1 : Blk w2 (w.heap.size) 24 #[.slice A n cap, .int .i64 im.mem, .int .i64 im.stacks] := Blk.next (by repeat' (first | with_reducible exact H_1.out | with_reducible exact K0_1 | (refine Blk.new' ?_ _ _; simp; done) | with_reducible refine Blk.alloc ?_ _ | with_reducible refine Blk.drewN ?_ _ | with_reducible refine Blk.drew ?_)) hb2; (try clear H_1); (try clear T_1); (try clear z_1); (try clear F_1); obtain ⟨z_1, T_1, F_1⟩ := K_1.open_; have H_1 := Lib.hid K_1; clear K_1
  have z2 := hb2.size
  clear hb2
  have H2_1 := Lib.hid H_1.out
  clear T_1 z_1 F_1 H_1
  go_upto_region 3 with fail
  cases v with
  | false =>
    refine wp_region_held_drew (S := fun W => Below w2.heap.size w2 W) (by kernel_rfl) ((Below.refl _ _).drew) (fun hH => ?_)
    refine wpAnyH_take (i := 0) (v := ?_) rfl (by kernel_rfl) (by kernel_rfl) (by kernel_rfl) (fun _ _ _ h => h) (Or.inl ⟨by rfl, ?hy⟩) hH ?_
    case hy => (intro w9_ hS9; have T9 := (H2_1.out.next hS9).cell; clear hS9; go_simp; try with_reducible rfl)
    (try simp only [List.getElem_toArray, List.getElem_cons_zero, List.getElem_cons_succ, Act.put, List.setIfInBounds_toArray, List.set_cons_zero, List.set_cons_succ])
    refine wpAnyH_take (i := 1) (v := _) rfl (by kernel_rfl) (by kernel_rfl) (by kernel_rfl) (fun _ _ _ h => h) (Or.inl ⟨by rfl, yields_load 30 (x := .tmp 5) rfl rfl (fun W hW => load_mach (HM.out.next hW))⟩) hH ?_
    (try simp only [List.getElem_toArray, List.getElem_cons_zero, List.getElem_cons_succ, Act.put, List.setIfInBounds_toArray, List.set_cons_zero, List.set_cons_succ])
    refine wpAnyH_take (i := 3) (v := ?_) rfl (by kernel_rfl) (by kernel_rfl) (by kernel_rfl) (fun _ _ _ h => h) (Or.inl ⟨by rfl, ?hy⟩) hH ?_
    case hy => (intro w9_ hS9; have T9 := (H2_1.out.next hS9).cell; clear hS9; go_simp; try with_reducible rfl)
    (try simp only [List.getElem_toArray, List.getElem_cons_zero, List.getElem_cons_succ, Act.put, List.setIfInBounds_toArray, List.set_cons_zero, List.set_cons_succ])
    refine wpAnyH_take (i := 4) (v := _) rfl (by kernel_rfl) (by kernel_rfl) (by kernel_rfl) (fun _ _ _ h => h) (Or.inl ⟨by rfl, yields_load 30 (x := .tmp 5) rfl rfl (fun W hW => load_mach (HM.out.next hW))⟩) hH ?_
    (try simp only [List.getElem_toArray, List.getElem_cons_zero, List.getElem_cons_succ, Act.put, List.setIfInBounds_toArray, List.set_cons_zero, List.set_cons_succ])
    refine wpAnyH_ready (rs := [2]) (by kernel_rfl) (by simp) ?_
    refine AllReadyH.cons rfl (fun K hK => ?_) (AllReadyH.nil)
    go_simp
    refine (c_MadeNone A n cap im M vm vs vc vi vo sv _ (Rd.upL HC.out (hB_w2.next hH)) hw (MLs.up HL.out (hB_w2.next hH)) HWF.out HLL.out (HT.out.next (hB_w2.next hH)) HOK.out).mono ?_
    rintro e w3 ⟨rfl, hb3⟩
    replace hH := hH.next hb3
    clear hb3
    refine hK.out _ _ hH (fun _ => ?_)
    clear hK
    (try simp only [List.getElem_toArray, List.getElem_cons_zero, List.getElem_cons_succ, Act.put, List.setIfInBounds_toArray, List.set_cons_zero, List.set_cons_succ])
    refine wpAnyH_ready (rs := [5]) (by kernel_rfl) (by simp) ?_
    refine AllReadyH.cons rfl (fun K hK => ?_) (AllReadyH.nil)
    go_simp
    refine (c_MadeNone A n cap im M vm vs vc vi vo sv _ (Rd.upL HC.out (hB_w2.next hH)) hw (MLs.up HL.out (hB_w2.next hH)) HWF.out HLL.out (HT.out.next (hB_w2.next hH)) HOK.out).mono ?_
    rintro e w4 ⟨rfl, hb4⟩
    replace hH := hH.next hb4
    clear hb4
    refine hK.out _ _ hH (fun _ => ?_)
    clear hK
    (try simp only [List.getElem_toArray, List.getElem_cons_zero, List.getElem_cons_succ, Act.put, List.setIfInBounds_toArray, List.set_cons_zero, List.set_cons_succ])
    refine wpAnyH_take (i := 6) (v := ?_) rfl (by kernel_rfl) (by kernel_rfl) (by kernel_rfl) (fun _ _ _ h => h) (Or.inl ⟨by rfl, ?hy⟩) hH ?_
    case hy => (intro w9_ hS9; clear hS9; go_simp; try with_reducible rfl)
    (try simp only [List.getElem_toArray, List.getElem_cons_zero, List.getElem_cons_succ, Act.put, List.setIfInBounds_toArray, List.set_cons_zero, List.set_cons_succ])
    refine wpAnyH_take (i := 7) (v := ?_) rfl (by kernel_rfl) (by kernel_rfl) (by kernel_rfl) (fun _ _ _ h => h) (Or.inl ⟨by rfl, ?hy⟩) hH ?_
    case hy => (intro w9_ hS9; clear hS9; go_simp; try with_reducible rfl)
    (try simp only [List.getElem_toArray, List.getElem_cons_zero, List.getElem_cons_succ, Act.put, List.setIfInBounds_toArray, List.set_cons_zero, List.set_cons_succ])
    refine wpAnyH_done (by kernel_rfl) ?_ _
    go_wp2_with fail
    go_ret
    exact ⟨rfl, hB_w2.next hH⟩
  | true =>
    refine wp_region_held_drew (S := fun W => Below w2.heap.size w2 W) (by kernel_rfl) ((Below.refl _ _).drew) (fun hH => ?_)
    refine wpAnyH_take (i := 0) (v := ?_) rfl (by kernel_rfl) (by kernel_rfl) (by kernel_rfl) (fun _ _ _ h => h) (Or.inl ⟨by rfl, ?hy⟩) hH ?_
    case hy => (intro w9_ hS9; have T9 := (H2_1.out.next hS9).cell; clear hS9; go_simp; try with_reducible rfl)
    (try simp only [List.getElem_toArray, List.getElem_cons_zero, List.getElem_cons_succ, Act.put, List.setIfInBounds_toArray, List.set_cons_zero, List.set_cons_succ])
    refine wpAnyH_take (i := 1) (v := _) rfl (by kernel_rfl) (by kernel_rfl) (by kernel_rfl) (fun _ _ _ h => h) (Or.inl ⟨by rfl, yields_load 30 (x := .tmp 5) rfl rfl (fun W hW => load_mach (HM.out.next hW))⟩) hH ?_
    (try simp only [List.getElem_toArray, List.getElem_cons_zero, List.getElem_cons_succ, Act.put, List.setIfInBounds_toArray, List.set_cons_zero, List.set_cons_succ])
    refine wpAnyH_take (i := 3) (v := ?_) rfl (by kernel_rfl) (by kernel_rfl) (by kernel_rfl) (fun _ _ _ h => h) (Or.inl ⟨by rfl, ?hy⟩) hH ?_
    case hy => (intro w9_ hS9; have T9 := (H2_1.out.next hS9).cell; clear hS9; go_simp; try with_reducible rfl)
    (try simp only [List.getElem_toArray, List.getElem_cons_zero, List.getElem_cons_succ, Act.put, List.setIfInBounds_toArray, List.set_cons_zero, List.set_cons_succ])
    refine wpAnyH_take (i := 4) (v := _) rfl (by kernel_rfl) (by kernel_rfl) (by kernel_rfl) (fun _ _ _ h => h) (Or.inl ⟨by rfl, yields_load 30 (x := .tmp 5) rfl rfl (fun W hW => load_mach (HM.out.next hW))⟩) hH ?_
    (try simp only [List.getElem_toArray, List.getElem_cons_zero, List.getElem_cons_succ, Act.put, List.setIfInBounds_toArray, List.set_cons_zero, List.set_cons_succ])
    refine wpAnyH_ready (rs := [2]) (by kernel_rfl) (by simp) ?_
    refine AllReadyH.cons rfl (fun K hK => ?_) (AllReadyH.nil)
    go_simp
    refine (c_MadeOk A n cap im M vm vs vc vi vo sv _ (Rd.upL HC.out (hB_w2.next hH)) hw (MLs.up HL.out (hB_w2.next hH)) HWF.out HLL.out (HT.out.next (hB_w2.next hH)) HOK.out).mono ?_
    rintro e w3 ⟨P, A', n', cap', rfl, hV, hA, hO, hfx, hR, hb3⟩
    have h23 := hH.next hb3
    have z23 := h23.size
    have zwd := hH.size
    have HV := Lib.hid hV; have HA := Lib.hid hA; have HR := Lib.hid (hR.mono (fun k hk => (⟨by have := hk.1; omega, hk.2⟩ : w2.heap.size ≤ k ∧ k < w3.heap.size ∧ ¬ P.O k)))
    have HO : Hid (∀ k, P.O k → w2.heap.size ≤ k ∧ k < w3.heap.size) := Lib.hid fun k hk => ⟨by have := (hO k hk).1; omega, (hO k hk).2⟩
    have hPF := hfx
    have HPF := Lib.hid hPF
    replace hH := h23
    clear hV hA hO hfx hR hb3 hPF h23
    refine hK.out _ _ hH (fun _ => ?_)
    clear hK
    (try simp only [List.getElem_toArray, List.getElem_cons_zero, List.getElem_cons_succ, Act.put, List.setIfInBounds_toArray, List.set_cons_zero, List.set_cons_succ])
    refine wpAnyH_ready (rs := [5]) (by kernel_rfl) (by simp) ?_
    refine AllReadyH.cons rfl (fun K hK => ?_) (AllReadyH.nil)
    go_simp
    refine (c_MadeOk A n cap im M vm vs vc vi vo sv _ (Rd.upL HC.out (hB_w2.next hH)) hw (MLs.up HL.out (hB_w2.next hH)) HWF.out HLL.out (HT.out.next (hB_w2.next hH)) HOK.out).mono ?_
    rintro e w4 ⟨Q, A2, n2, cap2, rfl, hVq, hAq, hQO, hfxq, hRq, hb4⟩
    have HW4 := Lib.hid hVq; have HB4 := Lib.hid hAq; have HS4 := Lib.hid hRq; have HQF := Lib.hid hfxq
    have z34 := hb4.size
    have hb4' := hb4
    replace hH := hH.next hb4
    clear hVq hAq hRq hfxq hb4
    refine hK.out _ _ hH (fun _ => ?_)
    clear hK
    (try simp only [List.getElem_toArray, List.getElem_cons_zero, List.getElem_cons_succ, Act.put, List.setIfInBounds_toArray, List.set_cons_zero, List.set_cons_succ])
    refine wpAnyH_take (i := 6) (v := ?_) rfl (by kernel_rfl) (by kernel_rfl) (by kernel_rfl) (fun _ _ _ h => h) (Or.inl ⟨by rfl, ?hy⟩) hH ?_
    case hy => (intro w9_ hS9; clear hS9; go_simp; try with_reducible rfl)
    (try simp only [List.getElem_toArray, List.getElem_cons_zero, List.getElem_cons_succ, Act.put, List.setIfInBounds_toArray, List.set_cons_zero, List.set_cons_succ])
    refine wpAnyH_take (i := 7) (v := ?_) rfl (by kernel_rfl) (by kernel_rfl) (by kernel_rfl) (fun _ _ _ h => h) (Or.inl ⟨by rfl, ?hy⟩) hH ?_
    case hy => (intro w9_ hS9; clear hS9; go_simp; try with_reducible rfl)
    (try simp only [List.getElem_toArray, List.getElem_cons_zero, List.getElem_cons_succ, Act.put, List.setIfInBounds_toArray, List.set_cons_zero, List.set_cons_succ])
    refine wpAnyH_done (by kernel_rfl) ?_ _
    obtain ⟨P2, hP2⟩ : ∃ P2 : Pl, P2 = { P with fx := fun k => k < w2.heap.size ∨ (w3.heap.size ≤ k ∧ k < w4.heap.size) } := ⟨_, rfl⟩
    have HA4 : Hid (DAt w4 P2 im.code M 0) := Lib.hid (by rw [hP2]; exact HA.out.foreign hb4' (fun k hk => hk.elim (fun h => .inl (by rw [HPF.out]; exact h)) fun h => .inr h.1) (fun k hk => hk.elim (fun h => by omega) fun h => h.2))
    have HV4 : Hid (VFx w4 P2 A' n' cap' im) := Lib.hid (by rw [hP2]; exact (HV.out.next hb4').pl _)
    have hPO2 : ∀ k, P2.O k → w2.heap.size ≤ k ∧ k < w3.heap.size := fun k hk => HO.out k (by rw [hP2] at hk; exact hk)
    have hbp : P.b = P2.b := by rw [hP2]
    have HR4 : Hid (Rd w4 (fun k => w2.heap.size ≤ k ∧ k < w3.heap.size ∧ ¬ P2.O k) 5 A' n' (codeCells im.code)) := Lib.hid (by rw [hP2]; exact HR.out.keep (fun b o hd => hb4'.cell (p := ⟨b, o, none⟩) hd.2.1))
    have HPX : Hid (∀ k, w3.heap.size ≤ k → k < w4.heap.size → P2.fx k) := Lib.hid (fun k h1 h2 => by rw [hP2]; exact .inr ⟨h1, h2⟩)
    rw [hbp]
    have hw2 : w.heap.size + 2 ≤ w2.heap.size := by omega
    have hgt : 0 < w.heap.size := HT.out.lt
    have HPQ : Hid (∀ k, P2.O k → k < w3.heap.size ∧ ¬ Q.O k ∧ Q.fx k ∧ k ≠ 0) := Lib.hid (fun k hk => ⟨(hPO2 k hk).2, fun h => by have := (hQO k h).1; have := (hPO2 k hk).2; omega, by rw [HQF.out]; exact (hPO2 k hk).2, by have := (hPO2 k hk).1; omega⟩)
    have HQP : Hid (∀ k, Q.O k → w3.heap.size ≤ k ∧ ¬ P2.O k ∧ P2.fx k ∧ k ≠ 0) := Lib.hid (fun k hk => ⟨(hQO k hk).1, fun h => by have := (hQO k hk).1; have := (hPO2 k h).2; omega, HPX.out k (hQO k hk).1 (hQO k hk).2, by have := (hQO k hk).1; omega⟩)
    have hB_w4 : Below w.heap.size w w4 := hB_w2.next hH
    have BEL4 : Hid (∀ wz, Fr (fun k => w2.heap.size ≤ k) w4 wz → Below w.heap.size w wz) := Lib.hid fun wz hf => hB_w4.trans (hf.below (B := w.heap.size) (by have := hB_w4.size; omega) (fun k hk => by omega))
    have HOP : Hid (∀ k, P2.O k → w2.heap.size ≤ k) := Lib.hid fun k hk => (hPO2 k hk).1
    have HOQ : Hid (∀ k, Q.O k → w2.heap.size ≤ k) := Lib.hid fun k hk => by have := (hQO k hk).1; omega
    obtain ⟨hg, hck, hf⟩ := okD.facts HOK.out
    have hsm := Sm25.of hg
    have HVE : Hid (VEnv im M 110) := Lib.hid (VEnv.sm hsm hck hw HWF.out hf (by decide))
    clear hP2 hbp hg hck hf hsm hPO2 hQO hgt hb4' hH
    go_wp2_with fail
    refine (c_SeekAny (j := 0) (t := t) HV4.out HVE.out (by omega) (by omega) (by omega) (by omega) HA4.out).mono ?_
    rintro e w5 ⟨e5, j, rfl, hj, hA5, hf5⟩
    have hj40 : j < 40 := by rcases hj with h | h <;> omega
    have HRJ := Lib.hid hA5.2
    have HV5 := Lib.hid (HV4.out.fr hf5); have HA5 := Lib.hid hA5
    have HR5 := Lib.hid (Rd.frR HR4.out (by omega) hf5 (fun k h1 h2 h3 => h3))
    have HW5 := Lib.hid (HW4.out.other HS4.out (by omega) hf5 (fun k h1 h2 h => by have := (HPQ.out k h).1; omega) (fun h => (HPQ.out _ h).2.2.2 rfl))
    have HB5 := Lib.hid (HB4.out.other hf5 (fun h => (HPQ.out _ h).2.1 (.inl rfl)) (fun h => (HPQ.out _ h).2.1 (.inr (.inl rfl))) (fun h => (HPQ.out _ h).2.1 (.inr (.inr rfl))) (fun k hk => (HPQ.out k hk).2.2.1))
    have HS5 := Lib.hid (Rd.frR HS4.out (by omega) hf5 (fun k h1 h2 h3 h => by have := (HPQ.out k h).1; omega))
    have HF5 := Lib.hid ((Fr.refl (fun k => w2.heap.size ≤ k) w4).trans (hf5.mono HOP.out))
    have z5 := hf5.size
    clear hA5 hf5 hj
    go_wp2_with fail
    refine (c_DTime HV5.out HA5.out).mono ?_
    rintro e w6 ⟨rfl, hb6⟩
    have HV6 := Lib.hid (HV5.out.next hb6); have HA6 := Lib.hid (HA5.out.next hb6); have HF6 := Lib.hid (HF5.out.next hb6)
    have HR6 := Lib.hid (HR5.out.keep (fun b o hd => hb6.cell (p := ⟨b, o, none⟩) (by have := hd.2.1; show b < w5.heap.size; omega)))
    have HW6 := Lib.hid (HW5.out.next hb6); have HB6 := Lib.hid (HB5.out.next hb6)
    have HS6 := Lib.hid (HS5.out.keep (fun b o hd => hb6.cell (p := ⟨b, o, none⟩) (by have := hd.2.1; show b < w5.heap.size; omega)))
    have z6 := hb6.size
    clear hb6
    go_wp2_with fail
    refine (c_SeekOk HW6.out HVE.out (j := 0) (t := j) (by omega) (by omega) (by omega) (by omega) HRJ.out HB6.out).mono ?_
    rintro e w7 ⟨rfl, hB7, hf7⟩
    have HW7 := Lib.hid (HW6.out.fr hf7); have HB7 := Lib.hid hB7
    have HS7 : Hid (Rd w7 (fun k => w3.heap.size ≤ k ∧ k < w4.heap.size ∧ ¬ Q.O k) 5 A2 n2 (codeCells im.code)) := Lib.hid (Rd.frR HS6.out (by omega) hf7 (fun k h1 h2 h3 => h3))
    have HV7 := Lib.hid (HV6.out.other HR6.out (by omega) hf7 (fun k h1 h2 h => by have := (HQP.out k h).1; omega) (fun h => (HQP.out _ h).2.2.2 rfl))
    have HA7 := Lib.hid (HA6.out.other hf7 (fun h => (HQP.out _ h).2.1 (.inl rfl)) (fun h => (HQP.out _ h).2.1 (.inr (.inl rfl))) (fun h => (HQP.out _ h).2.1 (.inr (.inr rfl))) (fun k hk => (HQP.out k hk).2.2.1))
    have HR7 := Lib.hid (Rd.frR HR6.out (by omega) hf7 (fun k h1 h2 h3 h => by have := (HQP.out k h).1; omega))
    have HF7 := Lib.hid (HF6.out.trans (hf7.mono HOQ.out))
    have z7 := hf7.size
    clear hB7 hf7
    go_wp2_with fail
    refine (c_DTime HV7.out HA7.out).mono ?_
    rintro e w8 ⟨rfl, hb8⟩
    have HV8 := Lib.hid (HV7.out.next hb8); have HA8 := Lib.hid (HA7.out.next hb8); have HF8 := Lib.hid (HF7.out.next hb8)
    have HR8 := Lib.hid (HR7.out.keep (fun b o hd => hb8.cell (p := ⟨b, o, none⟩) (by have := hd.2.1; show b < w7.heap.size; omega)))
    have HW8 := Lib.hid (HW7.out.next hb8); have HB8 := Lib.hid (HB7.out.next hb8)
    have HS8 := Lib.hid (HS7.out.keep (fun b o hd => hb8.cell (p := ⟨b, o, none⟩) (by have := hd.2.1; show b < w7.heap.size; omega)))
    have z8 := hb8.size
    clear hb8
    go_wp2_with fail
    refine (c_DMachine HV8.out HVE.out (j := j) (by omega) HA8.out).mono ?_
    rintro e w9 ⟨vmn, vsn, vcn, vin, von, svn, rfl, hO9, hb9⟩
    have HV9 := Lib.hid (HV8.out.next hb9); have HA9 := Lib.hid (HA8.out.next hb9); have HF9 := Lib.hid (HF8.out.next hb9)
    have HR9 := Lib.hid (HR8.out.keep (fun b o hd => hb9.cell (p := ⟨b, o, none⟩) (by have := hd.2.1; show b < w8.heap.size; omega)))
    have HW9 := Lib.hid (HW8.out.next hb9); have HB9 := Lib.hid (HB8.out.next hb9)
    have HS9 := Lib.hid (HS8.out.keep (fun b o hd => hb9.cell (p := ⟨b, o, none⟩) (by have := hd.2.1; show b < w8.heap.size; omega)))
    have z9 := hb9.size
    obtain ⟨cl, hcl⟩ : ∃ cl, (tr im.code M j).calls.length = cl := ⟨_, rfl⟩
    have hclb : cl ≤ 1000000 := by rw [← hcl]; have := (HVE.out.bd j (by omega)).cl; omega
    obtain ⟨Am, cm, rfl, _⟩ := hO9.mls.m; obtain ⟨Av, cv, rfl, _⟩ := hO9.mls.s; obtain ⟨Ac, cc, rfl, _⟩ := hO9.mls.l.2.1; obtain ⟨Ai, ci, rfl, _⟩ := hO9.mls.l.2.2.1; obtain ⟨Ao, co, rfl, _⟩ := hO9.mls.l.2.2.2
    have hfd := fun w => field_calls (M := tr im.code M (j)) (vm := .slice Am (tr im.code M (j)).m.length cm) (vs := .slice Av (tr im.code M (j)).s.length cv) (vc := .slice Ac (tr im.code M (j)).calls.length cc) (vi := .slice Ai (tr im.code M (j)).inp.length ci) (vo := .slice Ao (tr im.code M (j)).out.length co) hO9.1 w
    generalize hagg : (mcells (tr im.code M (j)) (.slice Am (tr im.code M (j)).m.length cm) (.slice Av (tr im.code M (j)).s.length cv) (.slice Ac (tr im.code M (j)).calls.length cc) (.slice Ai (tr im.code M (j)).inp.length ci) (.slice Ao (tr im.code M (j)).out.length co)) = mcs at *
    rw [hcl] at hfd
    clear hagg
    have HCL := Lib.hid hcl
    clear hO9 hb9 hcl
    obtain ⟨N, ee, hfin⟩ := fin_any im.code M cl mo j
    have hNm := hfin.1
    have HFIN := Lib.hid hfin
    clear hfin
    by_cases hc0 : cl = 0
    · subst hc0
      go_wp2_with fail
      refine (c_FinishState HV9.out HVE.out (j := j) (by omega) (by omega) (mo : Int) HA9.out HCL.out).mono ?_
      rintro e w10 ⟨rfl, hb10⟩
      have HV10 := Lib.hid (HV9.out.next hb10); have HA10 := Lib.hid (HA9.out.next hb10); have HF10 := Lib.hid (HF9.out.next hb10)
      clear hb10
      go_wp2_with fail
      refine (c_DTime HV10.out HA10.out).mono ?_
      rintro e w11 ⟨rfl, hb11⟩
      go_wp2_with fail
      go_ret
      exact ⟨rfl, BEL4.out _ (HF10.out.next hb11)⟩
    have c1 : ((cl : Int) == 0) = false := by simp; omega
    obtain ⟨j', hj'⟩ : ∃ j' : Nat, (ee = 0 → j' = j + N + 1) ∧ (ee ≠ 0 → j' = j) := by
      by_cases h : ee = 0
      · exact ⟨j + N + 1, fun _ => rfl, fun h' => absurd h h'⟩
      · exact ⟨j, fun h' => absurd h' h, fun _ => rfl⟩
    have hj'b : j' ≤ 101 := by
      by_cases h : ee = 0
      · rw [hj'.1 h]; omega
      · rw [hj'.2 h]; omega
    have HJ' := Lib.hid hj'
    clear hj'
    have hs := c_FinishAny HV9.out HVE.out (j := j) (most := mo) (by omega) (by omega) HA9.out (by rw [HCL.out]; omega) (by omega) (by omega) (by rw [HCL.out]; exact HFIN.out) HJ'.out
    have HSS := Lib.hid hs
    clear hs
    go_wp2_with fail
    refine HSS.out.mono ?_
    rintro e w10 ⟨rfl, hA10, hf10⟩
    have HV10 := Lib.hid (HV9.out.fr hf10); have HA10 := Lib.hid hA10
    have HR10 := Lib.hid (Rd.frR HR9.out (by omega) hf10 (fun k h1 h2 h3 => h3))
    have HW10 := Lib.hid (HW9.out.other HS9.out (by omega) hf10 (fun k h1 h2 h => by have := (HPQ.out k h).1; omega) (fun h => (HPQ.out _ h).2.2.2 rfl))
    have HB10 := Lib.hid (HB9.out.other hf10 (fun h => (HPQ.out _ h).2.1 (.inl rfl)) (fun h => (HPQ.out _ h).2.1 (.inr (.inl rfl))) (fun h => (HPQ.out _ h).2.1 (.inr (.inr rfl))) (fun k hk => (HPQ.out k hk).2.2.1))
    have HS10 := Lib.hid (Rd.frR HS9.out (by omega) hf10 (fun k h1 h2 h3 h => by have := (HPQ.out k h).1; omega))
    have HF10 := Lib.hid (HF9.out.trans (hf10.mono HOP.out))
    have z10 := hf10.size
    clear hA10 hf10
    go_wp2_with fail
    go_loopw [14, 63] (fun v14 v63 wr => ∃ i : Nat, i ≤ N ∧ v63 = .int .i64 i ∧ v14 = .int .i64 18 ∧ DAt wr Q im.code M (j + i) ∧ Fr Q.O w10 wr) (fun _ v _ => N - (intOf v).toNat)
    case atStart => exact ⟨0, Nat.zero_le _, rfl, rfl, HB10.out, Fr.refl _ _⟩
    case round =>
      obtain ⟨i, hi, rfl, rfl, hb, hfr⟩ := hrel
      have HBi := Lib.hid hb; have HFi := Lib.hid hfr; have HWi := Lib.hid (HW10.out.fr hfr)
      clear hb hfr
      by_cases h1 : i < N
      · have h2 : (i : Int) < (mo : Int) := by omega
        have hq := HFIN.out.2.1 i h1
        have H0 := Lib.hid hq.1; have HNC := Lib.hid hq.2
        clear hq
        go_wp2_with fail
        refine (c_DStepOk HWi.out HVE.out (j := j + i) (by omega) (by omega) HBi.out H0.out).mono ?_
        rintro e w11 ⟨rfl, hB11, hf11⟩
        have HW11 := Lib.hid (HWi.out.fr hf11); have HF11 := Lib.hid (HFi.out.trans hf11); have HB11 := Lib.hid hB11
        clear hB11 hf11
        go_wp2_with fail
        refine (c_DMachine HW11.out HVE.out (j := j + i + 1) (by omega) HB11.out).mono ?_
        rintro e w12 ⟨vmn, vsn, vcn, vin, von, svn, rfl, hO12, hb12⟩
        have HB12 := Lib.hid (HB11.out.next hb12); have HF12 := Lib.hid (HF11.out.next hb12)
        obtain ⟨c9, hc9⟩ : ∃ c9, (tr im.code M (j + i + 1)).calls.length = c9 := ⟨_, rfl⟩
        have hn9 := HNC.out
        rw [hc9] at hn9
        have hb9 : c9 ≤ 1000000 := by rw [← hc9]; have := (HVE.out.bd (j + i + 1) (by omega)).cl; omega
        have hn9' : ¬ (c9 : Int) < (cl : Int) := by omega
        obtain ⟨Am, cm, rfl, _⟩ := hO12.mls.m; obtain ⟨Av, cv, rfl, _⟩ := hO12.mls.s; obtain ⟨Ac, cc, rfl, _⟩ := hO12.mls.l.2.1; obtain ⟨Ai, ci, rfl, _⟩ := hO12.mls.l.2.2.1; obtain ⟨Ao, co, rfl, _⟩ := hO12.mls.l.2.2.2
        have hfd := fun w => field_calls (M := tr im.code M (j + i + 1)) (vm := .slice Am (tr im.code M (j + i + 1)).m.length cm) (vs := .slice Av (tr im.code M (j + i + 1)).s.length cv) (vc := .slice Ac (tr im.code M (j + i + 1)).calls.length cc) (vi := .slice Ai (tr im.code M (j + i + 1)).inp.length ci) (vo := .slice Ao (tr im.code M (j + i + 1)).out.length co) hO12.1 w
        generalize hagg : (mcells (tr im.code M (j + i + 1)) (.slice Am (tr im.code M (j + i + 1)).m.length cm) (.slice Av (tr im.code M (j + i + 1)).s.length cv) (.slice Ac (tr im.code M (j + i + 1)).calls.length cc) (.slice Ai (tr im.code M (j + i + 1)).inp.length ci) (.slice Ao (tr im.code M (j + i + 1)).out.length co)) = mcs at *
        rw [hc9] at hfd
        clear hagg
        clear hO12 hb12 hc9 hn9
        go_wp2_with fail
        exact ⟨⟨i + 1, by omega, by go_num, rfl, HB12.out, HF12.out⟩, by simp [intOf]; omega⟩
      · obtain rfl : i = N := by omega
        rcases HFIN.out.2.2 with ⟨h2, h3⟩ | ⟨h2, h3, h4⟩ | ⟨h2, h3, h4, h5⟩
        · subst h2
          subst h3
          obtain rfl : j' = j := HJ'.out.2 (by decide)
          go_wp2_with fail
          refine (c_SeekOk HWi.out HVE.out (j := j' + i) (t := j') (by omega) (by omega) (by omega) (by omega) HRJ.out HBi.out).mono ?_
          rintro e w13 ⟨rfl, hB13, hf13⟩
          have HW13 := Lib.hid (HWi.out.fr hf13); have HB13 := Lib.hid hB13; have HF13 := Lib.hid (HFi.out.trans hf13)
          clear hB13 hf13
          have HV13 := Lib.hid (HV10.out.other HR10.out (by omega) HF13.out (fun k h1 h2 h => by have := (HQP.out k h).1; omega) (fun h => (HQP.out _ h).2.2.2 rfl))
          have HA13 := Lib.hid (HA10.out.other HF13.out (fun h => (HQP.out _ h).2.1 (.inl rfl)) (fun h => (HQP.out _ h).2.1 (.inr (.inl rfl))) (fun h => (HQP.out _ h).2.1 (.inr (.inr rfl))) (fun k hk => (HQP.out k hk).2.2.1))
          have HG13 := Lib.hid (HF10.out.trans (HF13.out.mono HOQ.out))
          have hH := Below.refl w13.heap.size w13
          go_wp2_with fail
          refine (c_DTime (HV13.out.next hH) (HA13.out.next hH)).mono ?_
          rintro e w14 ⟨rfl, hb14⟩
          replace hH := hH.next hb14
          clear hb14
          go_wp2_with fail
          refine (c_DTime (HW13.out.next hH) (HB13.out.next hH)).mono ?_
          rintro e w15 ⟨rfl, hb15⟩
          replace hH := hH.next hb15
          clear hb15
          go_wp2_with fail
          refine (c_DMachine (HV13.out.next hH) HVE.out (j := j') (by omega) (HA13.out.next hH)).mono ?_
          rintro e w16 ⟨vm6, vs6, vc6, vi6, vo6, sv6, rfl, hO16, hb16⟩
          have HO16 := Lib.hid hO16
          replace hH := hH.next hb16
          clear hb16 hO16
          go_wp2_with fail
          refine (c_DMachine (HW13.out.next hH) HVE.out (j := j') (by omega) (HB13.out.next hH)).mono ?_
          rintro e w17 ⟨vm7, vs7, vc7, vi7, vo7, sv7, rfl, hO17, hb17⟩
          replace HO16 := Lib.hid (HO16.out.next hb17)
          have HO17 := Lib.hid hO17
          replace hH := hH.next hb17
          clear hb17 hO17
          go_wp2_with fail
          refine (c_same33 HO16.out.mls HO17.out.mls (HVE.out.bd j' (by omega))).mono ?_
          rintro e w18 ⟨rfl, hb18⟩
          replace hH := hH.next hb18
          clear hb18
          go_wp2_with fail
          go_ret
          exact ⟨rfl, BEL4.out _ (HG13.out.next hH)⟩
        · have h6 : (i : Int) < (mo : Int) := by omega
          have h7 : (ee != 0) = true := by simpa using h4
          obtain rfl : j' = j := HJ'.out.2 h4
          have H3 := Lib.hid h3; have H4 := Lib.hid h4
          clear h3 h4
          go_wp2_with fail
          have hs := c_DStepErr HWi.out HVE.out (j := j' + i) (by omega) HBi.out (by rw [H3.out]; exact H4.out)
          rw [H3.out] at hs
          refine hs.mono ?_
          rintro e w11 ⟨rfl, hB11, hf11⟩
          have HW11 := Lib.hid (HWi.out.fr hf11); have HF11 := Lib.hid (HFi.out.trans hf11); have HB11 := Lib.hid hB11
          clear hB11 hf11 hs
          go_wp2_with fail
          refine (c_SeekOk HW11.out HVE.out (j := j' + i) (t := j') (by omega) (by omega) (by omega) (by omega) HRJ.out HB11.out).mono ?_
          rintro e w13 ⟨rfl, hB13, hf13⟩
          have HW13 := Lib.hid (HW11.out.fr hf13); have HB13 := Lib.hid hB13; have HF13 := Lib.hid (HF11.out.trans hf13)
          clear hB13 hf13
          have HV13 := Lib.hid (HV10.out.other HR10.out (by omega) HF13.out (fun k h1 h2 h => by have := (HQP.out k h).1; omega) (fun h => (HQP.out _ h).2.2.2 rfl))
          have HA13 := Lib.hid (HA10.out.other HF13.out (fun h => (HQP.out _ h).2.1 (.inl rfl)) (fun h => (HQP.out _ h).2.1 (.inr (.inl rfl))) (fun h => (HQP.out _ h).2.1 (.inr (.inr rfl))) (fun k hk => (HQP.out k hk).2.2.1))
          have HG13 := Lib.hid (HF10.out.trans (HF13.out.mono HOQ.out))
          have hH := Below.refl w13.heap.size w13
          go_wp2_with fail
          refine (c_DTime (HV13.out.next hH) (HA13.out.next hH)).mono ?_
          rintro e w14 ⟨rfl, hb14⟩
          replace hH := hH.next hb14
          clear hb14
          go_wp2_with fail
          refine (c_DTime (HW13.out.next hH) (HB13.out.next hH)).mono ?_
          rintro e w15 ⟨rfl, hb15⟩
          replace hH := hH.next hb15
          clear hb15
          go_wp2_with fail
          refine (c_DMachine (HV13.out.next hH) HVE.out (j := j') (by omega) (HA13.out.next hH)).mono ?_
          rintro e w16 ⟨vm6, vs6, vc6, vi6, vo6, sv6, rfl, hO16, hb16⟩
          have HO16 := Lib.hid hO16
          replace hH := hH.next hb16
          clear hb16 hO16
          go_wp2_with fail
          refine (c_DMachine (HW13.out.next hH) HVE.out (j := j') (by omega) (HB13.out.next hH)).mono ?_
          rintro e w17 ⟨vm7, vs7, vc7, vi7, vo7, sv7, rfl, hO17, hb17⟩
          replace HO16 := Lib.hid (HO16.out.next hb17)
          have HO17 := Lib.hid hO17
          replace hH := hH.next hb17
          clear hb17 hO17
          go_wp2_with fail
          refine (c_same33 HO16.out.mls HO17.out.mls (HVE.out.bd j' (by omega))).mono ?_
          rintro e w18 ⟨rfl, hb18⟩
          replace hH := hH.next hb18
          clear hb18
          go_wp2_with fail
          go_ret
          exact ⟨rfl, BEL4.out _ (HG13.out.next hH)⟩
        · have h6 : (i : Int) < (mo : Int) := by omega
          obtain rfl : j' = j + i + 1 := HJ'.out.1 h5
          subst h5
          have H3 := Lib.hid h3; have H4 := Lib.hid h4
          clear h3 h4
          go_wp2_with fail
          refine (c_DStepOk HWi.out HVE.out (j := j + i) (by omega) (by omega) HBi.out H3.out).mono ?_
          rintro e w11 ⟨rfl, hB11, hf11⟩
          have HW11 := Lib.hid (HWi.out.fr hf11); have HF11 := Lib.hid (HFi.out.trans hf11); have HB11 := Lib.hid hB11
          clear hB11 hf11
          go_wp2_with fail
          refine (c_DMachine HW11.out HVE.out (j := j + i + 1) (by omega) HB11.out).mono ?_
          rintro e w13 ⟨vmn, vsn, vcn, vin, von, svn, rfl, hO13, hb13⟩
          have HB13 := Lib.hid (HB11.out.next hb13); have HF13 := Lib.hid (HF11.out.next hb13); have HW13 := Lib.hid (HW11.out.next hb13)
          obtain ⟨c9, hc9⟩ : ∃ c9, (tr im.code M (j + i + 1)).calls.length = c9 := ⟨_, rfl⟩
          have hn9 := H4.out
          rw [hc9] at hn9
          have hn9' : (c9 : Int) < (cl : Int) := by omega
          have hb9 : c9 ≤ 1000000 := by omega
          obtain ⟨Am, cm, rfl, _⟩ := hO13.mls.m; obtain ⟨Av, cv, rfl, _⟩ := hO13.mls.s; obtain ⟨Ac, cc, rfl, _⟩ := hO13.mls.l.2.1; obtain ⟨Ai, ci, rfl, _⟩ := hO13.mls.l.2.2.1; obtain ⟨Ao, co, rfl, _⟩ := hO13.mls.l.2.2.2
          have hfd := fun w => field_calls (M := tr im.code M (j + i + 1)) (vm := .slice Am (tr im.code M (j + i + 1)).m.length cm) (vs := .slice Av (tr im.code M (j + i + 1)).s.length cv) (vc := .slice Ac (tr im.code M (j + i + 1)).calls.length cc) (vi := .slice Ai (tr im.code M (j + i + 1)).inp.length ci) (vo := .slice Ao (tr im.code M (j + i + 1)).out.length co) hO13.1 w
          generalize hagg : (mcells (tr im.code M (j + i + 1)) (.slice Am (tr im.code M (j + i + 1)).m.length cm) (.slice Av (tr im.code M (j + i + 1)).s.length cv) (.slice Ac (tr im.code M (j + i + 1)).calls.length cc) (.slice Ai (tr im.code M (j + i + 1)).inp.length ci) (.slice Ao (tr im.code M (j + i + 1)).out.length co)) = mcs at *
          rw [hc9] at hfd
          clear hagg
          obtain ⟨j', hjj⟩ : ∃ j', j + i + 1 = j' := ⟨_, rfl⟩
          rw [hjj] at HA10 HB13 hj'b
          clear hO13 hb13 hc9 hn9 hjj
          have HV13 := Lib.hid (HV10.out.other HR10.out (by omega) HF13.out (fun k h1 h2 h => by have := (HQP.out k h).1; omega) (fun h => (HQP.out _ h).2.2.2 rfl))
          have HA13 := Lib.hid (HA10.out.other HF13.out (fun h => (HQP.out _ h).2.1 (.inl rfl)) (fun h => (HQP.out _ h).2.1 (.inr (.inl rfl))) (fun h => (HQP.out _ h).2.1 (.inr (.inr rfl))) (fun k hk => (HQP.out k hk).2.2.1))
          have HG13 := Lib.hid (HF10.out.trans (HF13.out.mono HOQ.out))
          have hH := Below.refl w13.heap.size w13
          go_wp2_with fail
          refine (c_DTime (HV13.out.next hH) (HA13.out.next hH)).mono ?_
          rintro e w14 ⟨rfl, hb14⟩
          replace hH := hH.next hb14
          clear hb14
          go_wp2_with fail
          refine (c_DTime (HW13.out.next hH) (HB13.out.next hH)).mono ?_
          rintro e w15 ⟨rfl, hb15⟩
          replace hH := hH.next hb15
          clear hb15
          go_wp2_with fail
          refine (c_DMachine (HV13.out.next hH) HVE.out (j := j') (by omega) (HA13.out.next hH)).mono ?_
          rintro e w16 ⟨vm6, vs6, vc6, vi6, vo6, sv6, rfl, hO16, hb16⟩
          have HO16 := Lib.hid hO16
          replace hH := hH.next hb16
          clear hb16 hO16
          go_wp2_with fail
          refine (c_DMachine (HW13.out.next hH) HVE.out (j := j') (by omega) (HB13.out.next hH)).mono ?_
          rintro e w17 ⟨vm7, vs7, vc7, vi7, vo7, sv7, rfl, hO17, hb17⟩
          replace HO16 := Lib.hid (HO16.out.next hb17)
          have HO17 := Lib.hid hO17
          replace hH := hH.next hb17
          clear hb17 hO17
          go_wp2_with fail
          refine (c_same33 HO16.out.mls HO17.out.mls (HVE.out.bd j' (by omega))).mono ?_
          rintro e w18 ⟨rfl, hb18⟩
          replace hH := hH.next hb18
          clear hb18
          go_wp2_with fail
          go_ret
          exact ⟨rfl, BEL4.out _ (HG13.out.next hH)⟩
theorem c_lawDebuggerFinishI (A : Option Addr) (n cap : Nat) (im : Img) (M : Mach) (vm vs vc vi vo : Value) (sv : List Value) (w : World) (hC : Rd w (· < w.heap.size) 5 A n (codeCells im.code)) (hw : CodeWf im.code) (hL : MLs w (· < w.heap.size) M vm vs vc vi vo sv) (hwf : MWf M) (hl : ∀ l ∈ M.s, l.length ≤ 17592186043904) (hTab : TableAt w) (st st' : Int) (st0 : 0 ≤ st) (st1 : st ≤ 255) (st0' : 0 ≤ st') (st1' : st' ≤ 255) :
    Calls Tryd.prog 8 #[.agg #[.slice A n cap, .int .i64 im.mem, .int .i64 im.stacks], .agg (mcells M vm vs vc vi vo).toArray, .int .u8 st, .int .u8 st'] w fun e w' => e = .returned (.bool true) ∧ Below w.heap.size w w' := by
  obtain ⟨x, rfl⟩ := Int.eq_ofNat_of_zero_le st0
  obtain ⟨y, rfl⟩ := Int.eq_ofNat_of_zero_le st0'
  exact c_lawDebuggerFinish A n cap im M vm vs vc vi vo sv w hC hw hL hwf hl hTab x (by omega) y (by omega)
end Go.Proofs.YtfpcblgkcbfdoaaDoor
