/- The walk of the law VmHalts. -/
import Derived.Test.YtmdjpmfkghjlhaaDoorVmZ
set_option linter.unusedVariables false
set_option linter.unusedSimpArgs false
set_option maxRecDepth 100000
namespace Go.Proofs.YtmdjpmfkghjlhaaDoor
open Go.RowKit Bk
theorem te_end {code : Prg} {M : Mach} (hd : M.dir = 1) (h : M.pc = code.length ∨ (0 ≤ M.pc ∧ M.pc < code.length ∧ (code.getD M.pc.toNat default).op = 34)) : (Bk.step code M).1 = 4 := by
  have hn : nextAt M = M.pc := by unfold nextAt; rw [hd]; rfl
  rw [step_eq, hn]
  rcases h with h | ⟨h0, h1, h2⟩
  · rw [if_pos (.inr (by omega))]
  · rw [if_neg (by omega), if_pos h2]
set_option maxHeartbeats 64000000 in
theorem c_lawVmHalts (A : Option Addr) (n cap : Nat) (im : Img) (M : Mach) (vm vs vc vi vo : Value) (sv : List Value) (w : World) (hC : Rd w (· < w.heap.size) 5 A n (codeCells im.code)) (hw : CodeWf im.code) (hL : MLs w (· < w.heap.size) M vm vs vc vi vo sv) (hwf : MWf M) (hl : ∀ l ∈ M.s, l.length ≤ 281474976710656) (hTab : TableAt w) (x : Nat) (hx : x ≤ 255) :
    Calls Tryd.prog 3 #[.agg #[.slice A n cap, .int .i64 im.mem, .int .i64 im.stacks], .agg (mcells M vm vs vc vi vo).toArray, .int .u8 (x : Int)] w fun e w' => e = .returned (.bool true) ∧ Below w.heap.size w w' := by
  obtain ⟨s, hs⟩ : ∃ s : Nat, s = 1 + x := ⟨_, rfl⟩
  obtain ⟨v, hv⟩ : ∃ v, okV im M (s : Int) = v := ⟨_, rfl⟩
  have HOK := Lib.hid hv; clear hv
  have hss : (1 : Int) + (x : Int) = (s : Int) := by omega
  have hwx : IntKind.i64.wrap (x : Int) = (x : Int) := wrap_small _ (by omega) (by omega)
  have hs256 : s ≤ 256 := by omega
  have HSX := Lib.hid hs; clear hs
  have hnn : n = im.code.length := by have := hC.1; rw [codeCells_length] at this; omega
  have HC := Lib.hid hC; have HT := Lib.hid hTab; have HL := Lib.hid hL; have HLL := Lib.hid hl; have HN := Lib.hid hnn; have HWF := Lib.hid hwf
  clear hC hTab hL hl hnn hwf
  go_enter Tryd.func3, Tryd.ntmps3
  go_upto_region 1 with fail
  refine wp_nameY ?_
  intro w1 hw1
  have hB_w1 : Below w.heap.size w w1 := by rw [hw1]; exact (by repeat' (first | (with_reducible assumption) | (with_reducible exact Below.refl _ _) | (with_reducible refine Below.alloc ?_ ?_ _) | (with_reducible refine Bk.drewN_ ?_ _) | (with_reducible refine Below.drew ?_) | (with_reducible refine Below.setCell ?_ ?_ _) | go_size))
  have K_1 : Blk w1 w.heap.size 24 #[.slice A n cap, .int .i64 im.mem, .int .i64 im.stacks] := by rw [hw1]; exact (by repeat' (first | with_reducible assumption | (refine Blk.new' ?_ _ _; simp; done) | refine Blk.alloc ?_ _ | refine Blk.drewN ?_ _ | refine Blk.drew ?_))
  have KM : Blk w1 (w.heap.size + 1) 30 (mcells M vm vs vc vi vo).toArray := by rw [hw1]; exact (by repeat' (first | with_reducible assumption | (refine Blk.new' ?_ _ _; simp; done) | refine Blk.alloc ?_ _ | refine Blk.drewN ?_ _ | refine Blk.drew ?_))
  have HM := Lib.hid ((HL.out.next hB_w1).at_ KM)
  have zz : w1.heap.size = w.heap.size + 2 := by rw [hw1]; simp
  clear hw1 KM
  obtain ⟨z_1, T_1, F_1⟩ := K_1.open_; have H_1 := Lib.hid K_1; clear K_1
  go_wp2_with fail
  refine (c_awake25 _ (HT.out.next hB_w1)).mono ?_
  rintro e w2 ⟨rfl, hb2⟩
  have hB_w2 := hB_w1.next hb2
  replace HM := Lib.hid (HM.out.next hb2)
  have K_1 : Blk w2 (w.heap.size) 24 #[.slice A n cap, .int .i64 im.mem, .int .i64 im.stacks] := Blk.next (by repeat' (first | with_reducible exact H_1.out | with_reducible exact K0_1 | (refine Blk.new' ?_ _ _; simp; done) | with_reducible refine Blk.alloc ?_ _ | with_reducible refine Blk.drewN ?_ _ | with_reducible refine Blk.drew ?_)) hb2; (try clear H_1); (try clear T_1); (try clear z_1); (try clear F_1); obtain ⟨z_1, T_1, F_1⟩ := K_1.open_; have H_1 := Lib.hid K_1; clear K_1
  have z2 := hb2.size
  clear hb2
  go_wp2_with (refine wpList_loadG 30 rfl rfl rfl (load_mach HM.out) ?_; simp only [Act.put, List.setIfInBounds_toArray, List.set_cons_succ, List.set_cons_zero])
  cases v with
  | false =>
    refine (c_madeNone A n cap im M vm vs vc vi vo sv w2 (Rd.upL HC.out hB_w2) hw (MLs.up HL.out hB_w2) HWF.out HLL.out (HT.out.next hB_w2) s HOK.out).mono ?_
    rintro e w3 ⟨rfl, hb3⟩
    have hB_w3 := hB_w2.next hb3
    clear hb3
    go_wp2_with fail
    go_ret
    exact ⟨rfl, hB_w3⟩
  | true =>
    refine (show Calls Tryd.prog 16 #[_, _, .int .i64 s] w2 _ from c_madeOk A n cap im M vm vs vc vi vo sv w2 (Rd.upL HC.out hB_w2) hw (MLs.up HL.out hB_w2) HWF.out HLL.out (HT.out.next hB_w2) s HOK.out).mono ?_
    rintro e w3 ⟨P, A', n', cap', rfl, hV, hA, hO, hfx, hR, hb3⟩
    have hB_w3 := hB_w2.next hb3
    replace HM := Lib.hid (HM.out.next hb3)
    have K_1 : Blk w3 (w.heap.size) 24 #[.slice A n cap, .int .i64 im.mem, .int .i64 im.stacks] := Blk.next (by repeat' (first | with_reducible exact H_1.out | with_reducible exact K0_1 | (refine Blk.new' ?_ _ _; simp; done) | with_reducible refine Blk.alloc ?_ _ | with_reducible refine Blk.drewN ?_ _ | with_reducible refine Blk.drew ?_)) hb3; (try clear H_1); (try clear T_1); (try clear z_1); (try clear F_1); obtain ⟨z_1, T_1, F_1⟩ := K_1.open_; have H_1 := Lib.hid K_1; clear K_1
    obtain ⟨hg, hck, hf, hx0, hx1⟩ := okV.facts HOK.out
    have hsm := Sm25.of hg
    have HVE : Hid (VEnv im M 300) := Lib.hid (VEnv.sm hsm hck hw HWF.out hf (by decide))
    have HSM := Lib.hid hsm
    have HV := Lib.hid hV; have HA := Lib.hid hA; have HO := Lib.hid hO; have HFX := Lib.hid hfx; have HR := Lib.hid hR
    have z3 := hb3.size
    have zb2 := hB_w2.size
    have BEL : Hid (∀ wz, Fr P.O w3 wz → Below w.heap.size w wz) := Lib.hid fun wz hf => hB_w3.trans (hf.below (B := w.heap.size) (by omega) (fun k hk => by have := (hO k hk).1; omega))
    have HNO : Hid (∀ k, k < w2.heap.size → ¬ P.O k) := Lib.hid fun k hk ho => by have := (hO k ho).1; omega
    have HM3 := Lib.hid HM.out
    have H3_1 := Lib.hid H_1.out
    clear hV hA hO hfx hR hb3 hg hck hf hx0 hx1 hsm HM
    clear T_1 z_1 F_1 H_1
    have hnn : n = im.code.length := HN.out
    go_wp2_with fail
    go_loopw [21] (fun v21 wr => ∃ i f : Nat, i ≤ 40 ∧ v21 = .int .i64 i ∧ i + f = s ∧ VAt wr P im.code M i f ∧ Fr P.O w3 wr) (fun v _ => 40 - (intOf v).toNat)
    case atStart => exact ⟨0, s, by omega, rfl, by omega, HA.out, Fr.refl _ _⟩
    case round =>
      obtain ⟨i, f, hi, rfl, hif, ha, hfr⟩ := hrel
      have HAr := Lib.hid ha; have HFr := Lib.hid hfr; have HVr := Lib.hid (HV.out.fr hfr)
      clear ha hfr
      by_cases hlt : i < 40
      · have i0 : (0 : Int) ≤ (i : Int) := by omega
        have i1 : (i : Int) < 40 := by omega
        go_wp2_with fail
        refine (c_VMachine HVr.out HVE.out (j := i) (by omega) HAr.out).mono ?_
        rintro e w5 ⟨vmn, vsn, vcn, vin, von, svn, rfl, hO5, hb5⟩
        have HL5 := Lib.hid (mc_len (tr im.code M i) vmn vsn vcn vin von hO5.1)
        have HONE : Hid (∀ v ∈ mcells (tr im.code M i) vmn vsn vcn vin von, v.oneCell' = true) := Lib.hid (by
          obtain ⟨_, _, rfl, _⟩ := hO5.mls.m; obtain ⟨_, _, rfl, _⟩ := hO5.mls.s; obtain ⟨_, _, rfl, _⟩ := hO5.mls.l.2.1; obtain ⟨_, _, rfl, _⟩ := hO5.mls.l.2.2.1; obtain ⟨_, _, rfl, _⟩ := hO5.mls.l.2.2.2
          exact mc_one rfl rfl rfl rfl rfl)
        have hrl : (tr im.code M i).r.length = 16 := hO5.1
        obtain ⟨Ac, cc, hvc, -⟩ := hO5.mls.l.2.1
        subst hvc
        clear hO5
        go_upto_region 9 with (refine wpList_store_row rfl 30 (.tmp 8) (.tmp 24) rfl w5.heap.size _ rfl rfl 30 #[.int .i64 0, .int .i64 0, .int .i64 0, .int .i64 0, .int .i64 0, .int .i64 0, .int .i64 0, .int .i64 0, .int .i64 0, .int .i64 0, .int .i64 0, .int .i64 0, .int .i64 0, .int .i64 0, .int .i64 0, .int .i64 0, .int .i64 0, .int .i64 0, .slice none 0 0, .slice none 0 0, .slice none 0 0, .int .i64 0, .int .i64 0, .slice none 0 0, .slice none 0 0] (heap_alloc_new w5 _) (by rw [info_mach25]; simp [HL5.out]) (by simp [HL5.out]) (all_oneCell_toArray HONE.out) ?_; simp only [Act.put, List.setIfInBounds_toArray, List.set_cons_succ, List.set_cons_zero])
        refine wp_nameY ?_
        intro w6 hw6
        rw [World.setRow_alloc_new] at hw6
        have hb6 : Below w5.heap.size w5 w6 := by rw [hw6]; exact (by repeat' (first | (with_reducible assumption) | (with_reducible exact Below.refl _ _) | (with_reducible refine Below.alloc ?_ ?_ _) | (with_reducible refine Bk.drewN_ ?_ _) | (with_reducible refine Below.drew ?_) | (with_reducible refine Below.setCell ?_ ?_ _) | go_size))
        have K6 : Blk w6 w5.heap.size 30 (mcells (tr im.code M i) vmn vsn (.slice Ac (tr im.code M i).calls.length cc) vin von).toArray := by rw [hw6]; exact Blk.new _ _ _
        have hb56 := hb5.next hb6
        have HZ5 : Hid (w3.heap.size ≤ w5.heap.size) := Lib.hid (by have := HFr.out.size; have := hb5.size; omega)
        have HV6 := Lib.hid (HVr.out.next hb56); have HA6 := Lib.hid (HAr.out.next hb56); have HF6 := Lib.hid (HFr.out.next hb56)
        have c0 : w6.cell? ⟨w5.heap.size, 0, none⟩ = some (.int .i64 (tr im.code M i).pc) := by rw [K6.cell 0, List.getElem?_toArray]; rfl
        have c1 : w6.cell? ⟨w5.heap.size, 1, none⟩ = some (.int .i64 (tr im.code M i).dir) := by rw [K6.cell 1, List.getElem?_toArray]; rfl
        have c20 : w6.cell? ⟨w5.heap.size, 20, none⟩ = some (.slice Ac (tr im.code M i).calls.length cc) := by rw [K6.cell 20, List.getElem?_toArray]; exact (mc_get hrl).2.2.2.2.2.1
        have K_1 : Blk w6 w.heap.size 24 #[.slice A n cap, .int .i64 im.mem, .int .i64 im.stacks] := HF6.out.blk H3_1.out (HNO.out _ (by omega))
        obtain ⟨z_1, T_1, F_1⟩ := K_1.open_
        have hR6 := Rd.upL HC.out (BEL.out _ HF6.out)
        have hbn : w5.heap.size < w6.heap.size := K6.lt
        have HK6 := Lib.hid K6
        clear hw6 hb6 hb5 hb56 K6 K_1 hrl HL5 HONE HVr HAr HFr
        obtain ⟨k, hk⟩ : ∃ k : Nat, (tr im.code M i).pc = (k : Int) := ⟨(tr im.code M i).pc.toNat, by have := (HVE.out.fit i).p0; omega⟩
        have hkn : k ≤ n := by have := (HVE.out.fit i).p1; omega
        obtain ⟨dd, hdd⟩ : ∃ dd, (tr im.code M i).dir = dd := ⟨_, rfl⟩
        obtain ⟨cl, hcl⟩ : ∃ cl, (tr im.code M i).calls.length = cl := ⟨_, rfl⟩
        rw [hk] at c0; rw [hdd] at c1; rw [hcl] at c20
        have hcl1 : cl ≤ 100 := by rw [← hcl]; exact (HVE.out.bd i (by omega)).cl
        obtain ⟨hv, hhv⟩ : ∃ hv, halt im.code (tr im.code M i) = hv := ⟨_, rfl⟩
        have hht : halt im.code (tr im.code M i) = (decide (dd = 1) && (decide (cl = 0) && (decide ((k : Int) = im.code.length) || decide ((im.code.getD k default).op = 34)))) := by unfold halt; rw [hk, hdd, hcl, Int.toNat_natCast]
        have hcH := c_VHalted HV6.out HVE.out (j := i) (by omega) HA6.out
        rw [hhv] at hht
        have htE : dd = 1 → ((k : Int) = im.code.length ∨ (k < im.code.length ∧ (im.code.getD k default).op = 34)) → te im.code M i = 4 := fun h1 h2 => te_end (by rw [hdd]; exact h1) (by rw [hk, Int.toNat_natCast]; exact h2.imp id fun h => ⟨by omega, by omega, h.2⟩)
        have HHV := Lib.hid hhv; have HHT := Lib.hid hht; have HTE := Lib.hid htE
        clear hcH hk hdd hcl hhv hht htE
        have HIF : Hid (i + f = s) := Lib.hid hif
        have i40 : i < 40 := hlt
        clear hif hlt
        have hbO : ¬ P.O w5.heap.size := fun h => by have := (HO.out _ h).2; have := HF6.out.size; have := HZ5.out; omega
        rcases Nat.eq_or_lt_of_le hkn with hkk | hkk
        · subst hkk
          have HATP : Hid ((k : Int) = im.code.length ∨ (k < im.code.length ∧ (im.code.getD k default).op = 34)) := Lib.hid (.inl (by omega))
          have hdl : decide ((k : Int) = (im.code.length : Int)) = true := decide_eq_true (by omega)
          clear hR6
          by_cases hD : dd = 1
          · subst hD
            by_cases hC0 : cl = 0
            · subst hC0
              obtain rfl : hv = true := by rw [HHT.out]; rw [hdl]; rfl
              go_upto_region 10 with fail
              refine wp_region_held_drew (S := fun W => Below w6.heap.size w6 W) (by kernel_rfl) ((Below.refl _ _).drew) (fun hH => ?_)
              refine wpAnyH_take (i := 0) (v := ?_) rfl (by kernel_rfl) (by kernel_rfl) (by kernel_rfl) (fun _ _ _ h => h) (Or.inl ⟨by rfl, ?hy⟩) hH ?_
              case hy => (intro w9_ hS9; clear hS9; go_simp; try with_reducible rfl)
              (try simp only [List.getElem_toArray, List.getElem_cons_zero, List.getElem_cons_succ, Act.put, List.setIfInBounds_toArray, List.set_cons_zero, List.set_cons_succ])
              refine wpAnyH_take (i := 2) (v := ?_) rfl (by kernel_rfl) (by kernel_rfl) (by kernel_rfl) (fun _ _ _ h => h) (Or.inl ⟨by rfl, ?hy⟩) hH ?_
              case hy => (intro w9_ hS9; clear hS9; go_simp; try with_reducible rfl)
              (try simp only [List.getElem_toArray, List.getElem_cons_zero, List.getElem_cons_succ, Act.put, List.setIfInBounds_toArray, List.set_cons_zero, List.set_cons_succ])
              refine wpAnyH_take (i := 3) (v := ?_) rfl (by kernel_rfl) (by kernel_rfl) (by kernel_rfl) (fun _ _ _ h => h) (Or.inl ⟨by rfl, ?hy⟩) hH ?_
              case hy => (intro w9_ hS9; have T9 : w9_.cell? ⟨w5.heap.size, 1, none⟩ = some (.int .i64 1) := (hS9.cell (p := ⟨w5.heap.size, 1, none⟩) hbn).trans c1; clear hS9; go_simp; try with_reducible rfl)
              (try simp only [List.getElem_toArray, List.getElem_cons_zero, List.getElem_cons_succ, Act.put, List.setIfInBounds_toArray, List.set_cons_zero, List.set_cons_succ])
              refine wpAnyH_take (i := 4) (v := ?_) rfl (by kernel_rfl) (by kernel_rfl) (by kernel_rfl) (fun _ _ _ h => h) (Or.inl ⟨by rfl, ?hy⟩) hH ?_
              case hy => (intro w9_ hS9; clear hS9; go_simp; try with_reducible rfl)
              (try simp only [List.getElem_toArray, List.getElem_cons_zero, List.getElem_cons_succ, Act.put, List.setIfInBounds_toArray, List.set_cons_zero, List.set_cons_succ])
              refine wpAnyH_ready (rs := [1]) (by kernel_rfl) (by simp) ?_
              refine AllReadyH.cons rfl (fun K hK => ?_) (AllReadyH.nil)
              go_simp
              refine (show Calls Tryd.prog _ _ _ (fun e w' => e = .returned (.bool true) ∧ _) from (by have hs := c_VHalted (HV6.out.next hH) HVE.out (j := i) (by omega) (HA6.out.next hH); rw [HHV.out] at hs; exact hs)).mono ?_
              rintro e w7 ⟨rfl, hb7⟩
              replace hH := hH.next hb7
              clear hb7
              refine hK.out _ _ hH (fun _ => ?_)
              clear hK
              (try simp only [List.getElem_toArray, List.getElem_cons_zero, List.getElem_cons_succ, Act.put, List.setIfInBounds_toArray, List.set_cons_zero, List.set_cons_succ])
              refine wpAnyH_take (i := 5) (v := ?_) rfl (by kernel_rfl) (by kernel_rfl) (by kernel_rfl) (fun _ _ _ h => h) (Or.inl ⟨by rfl, ?hy⟩) hH ?_
              case hy => (intro w9_ hS9; clear hS9; go_simp; try with_reducible rfl)
              (try simp only [List.getElem_toArray, List.getElem_cons_zero, List.getElem_cons_succ, Act.put, List.setIfInBounds_toArray, List.set_cons_zero, List.set_cons_succ])
              refine wpAnyH_take (i := 6) (v := ?_) rfl (by kernel_rfl) (by kernel_rfl) (by kernel_rfl) (fun _ _ _ h => h) (Or.inl ⟨by rfl, ?hy⟩) hH ?_
              case hy => (intro w9_ hS9; clear hS9; go_simp; try with_reducible rfl)
              (try simp only [List.getElem_toArray, List.getElem_cons_zero, List.getElem_cons_succ, Act.put, List.setIfInBounds_toArray, List.set_cons_zero, List.set_cons_succ])
              refine wpAnyH_take (i := 7) (v := ?_) rfl (by kernel_rfl) (by kernel_rfl) (by kernel_rfl) (fun _ _ _ h => h) (Or.inl ⟨by rfl, ?hy⟩) hH ?_
              case hy => (intro w9_ hS9; have T9 : w9_.cell? ⟨w5.heap.size, 20, none⟩ = some (.slice Ac 0 cc) := (hS9.cell (p := ⟨w5.heap.size, 20, none⟩) hbn).trans c20; clear hS9; go_simp; try with_reducible rfl)
              (try simp only [List.getElem_toArray, List.getElem_cons_zero, List.getElem_cons_succ, Act.put, List.setIfInBounds_toArray, List.set_cons_zero, List.set_cons_succ])
              refine wpAnyH_take (i := 8) (v := ?_) rfl (by kernel_rfl) (by kernel_rfl) (by kernel_rfl) (fun _ _ _ h => h) (Or.inl ⟨by rfl, ?hy⟩) hH ?_
              case hy => (intro w9_ hS9; clear hS9; go_simp; try with_reducible rfl)
              (try simp only [List.getElem_toArray, List.getElem_cons_zero, List.getElem_cons_succ, Act.put, List.setIfInBounds_toArray, List.set_cons_zero, List.set_cons_succ])
              refine wpAnyH_take (i := 9) (v := ?_) rfl (by kernel_rfl) (by kernel_rfl) (by kernel_rfl) (fun _ _ _ h => h) (Or.inl ⟨by rfl, ?hy⟩) hH ?_
              case hy => (intro w9_ hS9; clear hS9; go_simp; try with_reducible rfl)
              (try simp only [List.getElem_toArray, List.getElem_cons_zero, List.getElem_cons_succ, Act.put, List.setIfInBounds_toArray, List.set_cons_zero, List.set_cons_succ])
              refine wpAnyH_take (i := 10) (v := ?_) rfl (by kernel_rfl) (by kernel_rfl) (by kernel_rfl) (fun _ _ _ h => h) (Or.inl ⟨by rfl, ?hy⟩) hH ?_
              case hy => (intro w9_ hS9; clear hS9; go_simp; try with_reducible rfl)
              (try simp only [List.getElem_toArray, List.getElem_cons_zero, List.getElem_cons_succ, Act.put, List.setIfInBounds_toArray, List.set_cons_zero, List.set_cons_succ])
              refine wpAnyH_take (i := 11) (v := ?_) rfl (by kernel_rfl) (by kernel_rfl) (by kernel_rfl) (fun _ _ _ h => h) (Or.inl ⟨by rfl, ?hy⟩) hH ?_
              case hy => (intro w9_ hS9; clear hS9; go_simp; try with_reducible rfl)
              (try simp only [List.getElem_toArray, List.getElem_cons_zero, List.getElem_cons_succ, Act.put, List.setIfInBounds_toArray, List.set_cons_zero, List.set_cons_succ])
              refine wpAnyH_take (i := 12) (v := ?_) rfl (by kernel_rfl) (by kernel_rfl) (by kernel_rfl) (fun _ _ _ h => h) (Or.inl ⟨by rfl, ?hy⟩) hH ?_
              case hy => (intro w9_ hS9; clear hS9; go_simp; try with_reducible rfl)
              (try simp only [List.getElem_toArray, List.getElem_cons_zero, List.getElem_cons_succ, Act.put, List.setIfInBounds_toArray, List.set_cons_zero, List.set_cons_succ])
              refine wpAnyH_take (i := 13) (v := ?_) rfl (by kernel_rfl) (by kernel_rfl) (by kernel_rfl) (fun _ _ _ h => h) (Or.inl ⟨by rfl, ?hy⟩) hH ?_
              case hy => (intro w9_ hS9; clear hS9; go_simp; try with_reducible rfl)
              (try simp only [List.getElem_toArray, List.getElem_cons_zero, List.getElem_cons_succ, Act.put, List.setIfInBounds_toArray, List.set_cons_zero, List.set_cons_succ])
              refine wpAnyH_take (i := 14) (v := ?_) rfl (by kernel_rfl) (by kernel_rfl) (by kernel_rfl) (fun _ _ _ h => h) (Or.inl ⟨by rfl, ?hy⟩) hH ?_
              case hy => (intro w9_ hS9; clear hS9; go_simp; try with_reducible rfl)
              (try simp only [List.getElem_toArray, List.getElem_cons_zero, List.getElem_cons_succ, Act.put, List.setIfInBounds_toArray, List.set_cons_zero, List.set_cons_succ])
              refine wpAnyH_done (by kernel_rfl) ?_ _
              have HV7 := Lib.hid (HV6.out.next hH); have HA7 := Lib.hid (HA6.out.next hH); have HF7 := Lib.hid (HF6.out.next hH)
              replace c1 : w7.cell? ⟨w5.heap.size, 1, none⟩ = some (.int .i64 1) := (hH.cell (p := ⟨w5.heap.size, 1, none⟩) hbn).trans c1
              have hbn7 : w5.heap.size < w7.heap.size := Nat.lt_of_lt_of_le hbn hH.size
              clear hH T_1 z_1 F_1 c0 c20
              have hz0 : f = 0 ∨ ∃ ff, f = ff + 1 := by rcases f with _ | ff; exact .inl rfl; exact .inr ⟨ff, rfl⟩
              rcases hz0 with rfl | ⟨ff, rfl⟩
              · go_wp2_with fail
                refine (c_VStep0 HV7.out HA7.out).mono ?_
                rintro e w8 ⟨rfl, hb8⟩
                have HV8 := Lib.hid (HV7.out.next hb8); have HA8 := Lib.hid (HA7.out.next hb8); have HF8 := Lib.hid (HF7.out.next hb8)
                have d1 : w8.cell? ⟨w5.heap.size, 1, none⟩ = some (.int .i64 1) := (hb8.cell (p := ⟨w5.heap.size, 1, none⟩) hbn7).trans c1
                have hbn8 : w5.heap.size < w8.heap.size := Nat.lt_of_lt_of_le hbn7 hb8.size
                clear hb8 c1
                go_wp2_with fail
                refine (show Calls Tryd.prog _ _ _ (fun e w' => e = .returned (.int .i64 0) ∧ _) from c_VFuel HV8.out HA8.out).mono ?_
                rintro e w9 ⟨rfl, hb9⟩
                have HF9 := Lib.hid (HF8.out.next hb9)
                replace d1 := (hb9.cell (p := ⟨w5.heap.size, 1, none⟩) hbn8).trans d1
                go_wp2_with fail
                go_ret
                exact ⟨rfl, BEL.out _ HF9.out⟩
              · have h4 : te im.code M i = 4 := HTE.out rfl HATP.out
                have hs := c_VStepErr HV7.out HVE.out (j := i) (f := ff) (by omega) (by have := HIF.out; omega) (by have := HIF.out; omega) HA7.out (by rw [h4]; decide)
                rw [h4] at hs
                have hf0 : (0 : Int) < ((ff + 1 : Nat) : Int) := by omega
                obtain ⟨f1, hf1⟩ : ∃ f1, ff + 1 = f1 := ⟨_, rfl⟩
                rw [hf1] at hs hf0
                have HSS := Lib.hid hs
                clear hs h4 hf1
                go_wp2_with fail
                refine HSS.out.mono ?_
                rintro e w8 ⟨rfl, hA8, hf8⟩
                have HV8 := Lib.hid (HV7.out.fr hf8); have HA8 := Lib.hid hA8; have HF8 := Lib.hid (HF7.out.trans hf8)
                have d1 : w8.cell? ⟨w5.heap.size, 1, none⟩ = some (.int .i64 1) := (hf8.cell hbn7 hbO 1).trans c1
                have hbn8 : w5.heap.size < w8.heap.size := Nat.lt_of_lt_of_le hbn7 hf8.size
                clear hA8 hf8 c1
                go_wp2_with fail
                refine (c_VFuel HV8.out HA8.out).mono ?_
                rintro e w9 ⟨rfl, hb9⟩
                have HF9 := Lib.hid (HF8.out.next hb9); have HA9 := Lib.hid (HA8.out.next hb9)
                replace d1 := (hb9.cell (p := ⟨w5.heap.size, 1, none⟩) hbn8).trans d1
                go_wp2_with fail
                go_ret
                exact ⟨rfl, BEL.out _ HF9.out⟩
            · have hC1 : ((cl : Int) == 0) = false := by simp; omega
              have hC2 : ¬ cl = 0 := hC0
              obtain rfl : hv = false := by rw [HHT.out]; rw [decide_eq_false hC2]; rfl
              go_upto_region 10 with fail
              refine wp_region_held_drew (S := fun W => Below w6.heap.size w6 W) (by kernel_rfl) ((Below.refl _ _).drew) (fun hH => ?_)
              refine wpAnyH_take (i := 0) (v := ?_) rfl (by kernel_rfl) (by kernel_rfl) (by kernel_rfl) (fun _ _ _ h => h) (Or.inl ⟨by rfl, ?hy⟩) hH ?_
              case hy => (intro w9_ hS9; clear hS9; go_simp; try with_reducible rfl)
              (try simp only [List.getElem_toArray, List.getElem_cons_zero, List.getElem_cons_succ, Act.put, List.setIfInBounds_toArray, List.set_cons_zero, List.set_cons_succ])
              refine wpAnyH_take (i := 2) (v := ?_) rfl (by kernel_rfl) (by kernel_rfl) (by kernel_rfl) (fun _ _ _ h => h) (Or.inl ⟨by rfl, ?hy⟩) hH ?_
              case hy => (intro w9_ hS9; clear hS9; go_simp; try with_reducible rfl)
              (try simp only [List.getElem_toArray, List.getElem_cons_zero, List.getElem_cons_succ, Act.put, List.setIfInBounds_toArray, List.set_cons_zero, List.set_cons_succ])
              refine wpAnyH_take (i := 3) (v := ?_) rfl (by kernel_rfl) (by kernel_rfl) (by kernel_rfl) (fun _ _ _ h => h) (Or.inl ⟨by rfl, ?hy⟩) hH ?_
              case hy => (intro w9_ hS9; have T9 : w9_.cell? ⟨w5.heap.size, 1, none⟩ = some (.int .i64 1) := (hS9.cell (p := ⟨w5.heap.size, 1, none⟩) hbn).trans c1; clear hS9; go_simp; try with_reducible rfl)
              (try simp only [List.getElem_toArray, List.getElem_cons_zero, List.getElem_cons_succ, Act.put, List.setIfInBounds_toArray, List.set_cons_zero, List.set_cons_succ])
              refine wpAnyH_take (i := 4) (v := ?_) rfl (by kernel_rfl) (by kernel_rfl) (by kernel_rfl) (fun _ _ _ h => h) (Or.inl ⟨by rfl, ?hy⟩) hH ?_
              case hy => (intro w9_ hS9; clear hS9; go_simp; try with_reducible rfl)
              (try simp only [List.getElem_toArray, List.getElem_cons_zero, List.getElem_cons_succ, Act.put, List.setIfInBounds_toArray, List.set_cons_zero, List.set_cons_succ])
              refine wpAnyH_ready (rs := [1]) (by kernel_rfl) (by simp) ?_
              refine AllReadyH.cons rfl (fun K hK => ?_) (AllReadyH.nil)
              go_simp
              refine (show Calls Tryd.prog _ _ _ (fun e w' => e = .returned (.bool false) ∧ _) from (by have hs := c_VHalted (HV6.out.next hH) HVE.out (j := i) (by omega) (HA6.out.next hH); rw [HHV.out] at hs; exact hs)).mono ?_
              rintro e w7 ⟨rfl, hb7⟩
              replace hH := hH.next hb7
              clear hb7
              refine hK.out _ _ hH (fun _ => ?_)
              clear hK
              (try simp only [List.getElem_toArray, List.getElem_cons_zero, List.getElem_cons_succ, Act.put, List.setIfInBounds_toArray, List.set_cons_zero, List.set_cons_succ])
              refine wpAnyH_take (i := 5) (v := ?_) rfl (by kernel_rfl) (by kernel_rfl) (by kernel_rfl) (fun _ _ _ h => h) (Or.inl ⟨by rfl, ?hy⟩) hH ?_
              case hy => (intro w9_ hS9; clear hS9; go_simp; try with_reducible rfl)
              (try simp only [List.getElem_toArray, List.getElem_cons_zero, List.getElem_cons_succ, Act.put, List.setIfInBounds_toArray, List.set_cons_zero, List.set_cons_succ])
              refine wpAnyH_take (i := 6) (v := ?_) rfl (by kernel_rfl) (by kernel_rfl) (by kernel_rfl) (fun _ _ _ h => h) (Or.inl ⟨by rfl, ?hy⟩) hH ?_
              case hy => (intro w9_ hS9; clear hS9; go_simp; try with_reducible rfl)
              (try simp only [List.getElem_toArray, List.getElem_cons_zero, List.getElem_cons_succ, Act.put, List.setIfInBounds_toArray, List.set_cons_zero, List.set_cons_succ])
              refine wpAnyH_take (i := 7) (v := ?_) rfl (by kernel_rfl) (by kernel_rfl) (by kernel_rfl) (fun _ _ _ h => h) (Or.inl ⟨by rfl, ?hy⟩) hH ?_
              case hy => (intro w9_ hS9; have T9 : w9_.cell? ⟨w5.heap.size, 20, none⟩ = some (.slice Ac cl cc) := (hS9.cell (p := ⟨w5.heap.size, 20, none⟩) hbn).trans c20; clear hS9; go_simp; try with_reducible rfl)
              (try simp only [List.getElem_toArray, List.getElem_cons_zero, List.getElem_cons_succ, Act.put, List.setIfInBounds_toArray, List.set_cons_zero, List.set_cons_succ])
              refine wpAnyH_take (i := 8) (v := ?_) rfl (by kernel_rfl) (by kernel_rfl) (by kernel_rfl) (fun _ _ _ h => h) (Or.inl ⟨by rfl, ?hy⟩) hH ?_
              case hy => (intro w9_ hS9; clear hS9; go_simp; try with_reducible rfl)
              (try simp only [List.getElem_toArray, List.getElem_cons_zero, List.getElem_cons_succ, Act.put, List.setIfInBounds_toArray, List.set_cons_zero, List.set_cons_succ])
              refine wpAnyH_take (i := 9) (v := ?_) rfl (by kernel_rfl) (by kernel_rfl) (by kernel_rfl) (fun _ _ _ h => h) (Or.inl ⟨by rfl, ?hy⟩) hH ?_
              case hy => (intro w9_ hS9; clear hS9; go_simp; try with_reducible rfl)
              (try simp only [List.getElem_toArray, List.getElem_cons_zero, List.getElem_cons_succ, Act.put, List.setIfInBounds_toArray, List.set_cons_zero, List.set_cons_succ])
              refine wpAnyH_take (i := 10) (v := ?_) rfl (by kernel_rfl) (by kernel_rfl) (by kernel_rfl) (fun _ _ _ h => h) (Or.inl ⟨by rfl, ?hy⟩) hH ?_
              case hy => (intro w9_ hS9; clear hS9; go_simp; try with_reducible rfl)
              (try simp only [List.getElem_toArray, List.getElem_cons_zero, List.getElem_cons_succ, Act.put, List.setIfInBounds_toArray, List.set_cons_zero, List.set_cons_succ])
              refine wpAnyH_take (i := 11) (v := ?_) rfl (by kernel_rfl) (by kernel_rfl) (by kernel_rfl) (fun _ _ _ h => h) (Or.inl ⟨by rfl, ?hy⟩) hH ?_
              case hy => (intro w9_ hS9; clear hS9; go_simp; try with_reducible rfl)
              (try simp only [List.getElem_toArray, List.getElem_cons_zero, List.getElem_cons_succ, Act.put, List.setIfInBounds_toArray, List.set_cons_zero, List.set_cons_succ])
              refine wpAnyH_take (i := 12) (v := undef) rfl (by kernel_rfl) (by kernel_rfl) (by kernel_rfl) (fun _ _ _ h => h) (Or.inr ⟨by rfl, rfl⟩) hH ?_
              (try simp only [List.getElem_toArray, List.getElem_cons_zero, List.getElem_cons_succ, Act.put, List.setIfInBounds_toArray, List.set_cons_zero, List.set_cons_succ])
              refine wpAnyH_take (i := 13) (v := ?_) rfl (by kernel_rfl) (by kernel_rfl) (by kernel_rfl) (fun _ _ _ h => h) (Or.inl ⟨by rfl, ?hy⟩) hH ?_
              case hy => (intro w9_ hS9; clear hS9; go_simp; try with_reducible rfl)
              (try simp only [List.getElem_toArray, List.getElem_cons_zero, List.getElem_cons_succ, Act.put, List.setIfInBounds_toArray, List.set_cons_zero, List.set_cons_succ])
              refine wpAnyH_take (i := 14) (v := ?_) rfl (by kernel_rfl) (by kernel_rfl) (by kernel_rfl) (fun _ _ _ h => h) (Or.inl ⟨by rfl, ?hy⟩) hH ?_
              case hy => (intro w9_ hS9; clear hS9; go_simp; try with_reducible rfl)
              (try simp only [List.getElem_toArray, List.getElem_cons_zero, List.getElem_cons_succ, Act.put, List.setIfInBounds_toArray, List.set_cons_zero, List.set_cons_succ])
              refine wpAnyH_done (by kernel_rfl) ?_ _
              have HV7 := Lib.hid (HV6.out.next hH); have HA7 := Lib.hid (HA6.out.next hH); have HF7 := Lib.hid (HF6.out.next hH)
              replace c1 : w7.cell? ⟨w5.heap.size, 1, none⟩ = some (.int .i64 1) := (hH.cell (p := ⟨w5.heap.size, 1, none⟩) hbn).trans c1
              have hbn7 : w5.heap.size < w7.heap.size := Nat.lt_of_lt_of_le hbn hH.size
              clear hH T_1 z_1 F_1 c0 c20
              have hz0 : f = 0 ∨ ∃ ff, f = ff + 1 := by rcases f with _ | ff; exact .inl rfl; exact .inr ⟨ff, rfl⟩
              rcases hz0 with rfl | ⟨ff, rfl⟩
              · go_wp2_with fail
                refine (c_VStep0 HV7.out HA7.out).mono ?_
                rintro e w8 ⟨rfl, hb8⟩
                have HV8 := Lib.hid (HV7.out.next hb8); have HA8 := Lib.hid (HA7.out.next hb8); have HF8 := Lib.hid (HF7.out.next hb8)
                have d1 : w8.cell? ⟨w5.heap.size, 1, none⟩ = some (.int .i64 1) := (hb8.cell (p := ⟨w5.heap.size, 1, none⟩) hbn7).trans c1
                have hbn8 : w5.heap.size < w8.heap.size := Nat.lt_of_lt_of_le hbn7 hb8.size
                clear hb8 c1
                go_wp2_with fail
                refine (show Calls Tryd.prog _ _ _ (fun e w' => e = .returned (.int .i64 0) ∧ _) from c_VFuel HV8.out HA8.out).mono ?_
                rintro e w9 ⟨rfl, hb9⟩
                have HF9 := Lib.hid (HF8.out.next hb9)
                replace d1 := (hb9.cell (p := ⟨w5.heap.size, 1, none⟩) hbn8).trans d1
                go_wp2_with fail
                go_ret
                exact ⟨rfl, BEL.out _ HF9.out⟩
              · have h4 : te im.code M i = 4 := HTE.out rfl HATP.out
                have hs := c_VStepErr HV7.out HVE.out (j := i) (f := ff) (by omega) (by have := HIF.out; omega) (by have := HIF.out; omega) HA7.out (by rw [h4]; decide)
                rw [h4] at hs
                have hf0 : (0 : Int) < ((ff + 1 : Nat) : Int) := by omega
                obtain ⟨f1, hf1⟩ : ∃ f1, ff + 1 = f1 := ⟨_, rfl⟩
                rw [hf1] at hs hf0
                have HSS := Lib.hid hs
                clear hs h4 hf1
                go_wp2_with fail
                refine HSS.out.mono ?_
                rintro e w8 ⟨rfl, hA8, hf8⟩
                have HV8 := Lib.hid (HV7.out.fr hf8); have HA8 := Lib.hid hA8; have HF8 := Lib.hid (HF7.out.trans hf8)
                have d1 : w8.cell? ⟨w5.heap.size, 1, none⟩ = some (.int .i64 1) := (hf8.cell hbn7 hbO 1).trans c1
                have hbn8 : w5.heap.size < w8.heap.size := Nat.lt_of_lt_of_le hbn7 hf8.size
                clear hA8 hf8 c1
                go_wp2_with fail
                refine (c_VFuel HV8.out HA8.out).mono ?_
                rintro e w9 ⟨rfl, hb9⟩
                have HF9 := Lib.hid (HF8.out.next hb9); have HA9 := Lib.hid (HA8.out.next hb9)
                replace d1 := (hb9.cell (p := ⟨w5.heap.size, 1, none⟩) hbn8).trans d1
                go_wp2_with fail
                go_ret
                exact ⟨rfl, BEL.out _ HF9.out⟩
          · have hD1 : (dd == 1) = false := by simpa using hD
            obtain rfl : hv = false := by rw [HHT.out]; rw [decide_eq_false hD]; rfl
            go_upto_region 10 with fail
            refine wp_region_held_drew (S := fun W => Below w6.heap.size w6 W) (by kernel_rfl) ((Below.refl _ _).drew) (fun hH => ?_)
            refine wpAnyH_take (i := 0) (v := ?_) rfl (by kernel_rfl) (by kernel_rfl) (by kernel_rfl) (fun _ _ _ h => h) (Or.inl ⟨by rfl, ?hy⟩) hH ?_
            case hy => (intro w9_ hS9; clear hS9; go_simp; try with_reducible rfl)
            (try simp only [List.getElem_toArray, List.getElem_cons_zero, List.getElem_cons_succ, Act.put, List.setIfInBounds_toArray, List.set_cons_zero, List.set_cons_succ])
            refine wpAnyH_take (i := 2) (v := ?_) rfl (by kernel_rfl) (by kernel_rfl) (by kernel_rfl) (fun _ _ _ h => h) (Or.inl ⟨by rfl, ?hy⟩) hH ?_
            case hy => (intro w9_ hS9; clear hS9; go_simp; try with_reducible rfl)
            (try simp only [List.getElem_toArray, List.getElem_cons_zero, List.getElem_cons_succ, Act.put, List.setIfInBounds_toArray, List.set_cons_zero, List.set_cons_succ])
            refine wpAnyH_take (i := 3) (v := ?_) rfl (by kernel_rfl) (by kernel_rfl) (by kernel_rfl) (fun _ _ _ h => h) (Or.inl ⟨by rfl, ?hy⟩) hH ?_
            case hy => (intro w9_ hS9; have T9 : w9_.cell? ⟨w5.heap.size, 1, none⟩ = some (.int .i64 dd) := (hS9.cell (p := ⟨w5.heap.size, 1, none⟩) hbn).trans c1; clear hS9; go_simp; try with_reducible rfl)
            (try simp only [List.getElem_toArray, List.getElem_cons_zero, List.getElem_cons_succ, Act.put, List.setIfInBounds_toArray, List.set_cons_zero, List.set_cons_succ])
            refine wpAnyH_take (i := 4) (v := ?_) rfl (by kernel_rfl) (by kernel_rfl) (by kernel_rfl) (fun _ _ _ h => h) (Or.inl ⟨by rfl, ?hy⟩) hH ?_
            case hy => (intro w9_ hS9; clear hS9; go_simp; try with_reducible rfl)
            (try simp only [List.getElem_toArray, List.getElem_cons_zero, List.getElem_cons_succ, Act.put, List.setIfInBounds_toArray, List.set_cons_zero, List.set_cons_succ])
            refine wpAnyH_ready (rs := [1]) (by kernel_rfl) (by simp) ?_
            refine AllReadyH.cons rfl (fun K hK => ?_) (AllReadyH.nil)
            go_simp
            refine (show Calls Tryd.prog _ _ _ (fun e w' => e = .returned (.bool false) ∧ _) from (by have hs := c_VHalted (HV6.out.next hH) HVE.out (j := i) (by omega) (HA6.out.next hH); rw [HHV.out] at hs; exact hs)).mono ?_
            rintro e w7 ⟨rfl, hb7⟩
            replace hH := hH.next hb7
            clear hb7
            refine hK.out _ _ hH (fun _ => ?_)
            clear hK
            (try simp only [List.getElem_toArray, List.getElem_cons_zero, List.getElem_cons_succ, Act.put, List.setIfInBounds_toArray, List.set_cons_zero, List.set_cons_succ])
            refine wpAnyH_take (i := 5) (v := ?_) rfl (by kernel_rfl) (by kernel_rfl) (by kernel_rfl) (fun _ _ _ h => h) (Or.inl ⟨by rfl, ?hy⟩) hH ?_
            case hy => (intro w9_ hS9; clear hS9; go_simp; try with_reducible rfl)
            (try simp only [List.getElem_toArray, List.getElem_cons_zero, List.getElem_cons_succ, Act.put, List.setIfInBounds_toArray, List.set_cons_zero, List.set_cons_succ])
            refine wpAnyH_take (i := 6) (v := undef) rfl (by kernel_rfl) (by kernel_rfl) (by kernel_rfl) (fun _ _ _ h => h) (Or.inr ⟨by rfl, rfl⟩) hH ?_
            (try simp only [List.getElem_toArray, List.getElem_cons_zero, List.getElem_cons_succ, Act.put, List.setIfInBounds_toArray, List.set_cons_zero, List.set_cons_succ])
            refine wpAnyH_take (i := 7) (v := undef) rfl (by kernel_rfl) (by kernel_rfl) (by kernel_rfl) (fun _ _ _ h => h) (Or.inr ⟨by rfl, rfl⟩) hH ?_
            (try simp only [List.getElem_toArray, List.getElem_cons_zero, List.getElem_cons_succ, Act.put, List.setIfInBounds_toArray, List.set_cons_zero, List.set_cons_succ])
            refine wpAnyH_take (i := 8) (v := undef) rfl (by kernel_rfl) (by kernel_rfl) (by kernel_rfl) (fun _ _ _ h => h) (Or.inr ⟨by rfl, rfl⟩) hH ?_
            (try simp only [List.getElem_toArray, List.getElem_cons_zero, List.getElem_cons_succ, Act.put, List.setIfInBounds_toArray, List.set_cons_zero, List.set_cons_succ])
            refine wpAnyH_take (i := 9) (v := undef) rfl (by kernel_rfl) (by kernel_rfl) (by kernel_rfl) (fun _ _ _ h => h) (Or.inr ⟨by rfl, rfl⟩) hH ?_
            (try simp only [List.getElem_toArray, List.getElem_cons_zero, List.getElem_cons_succ, Act.put, List.setIfInBounds_toArray, List.set_cons_zero, List.set_cons_succ])
            refine wpAnyH_take (i := 10) (v := ?_) rfl (by kernel_rfl) (by kernel_rfl) (by kernel_rfl) (fun _ _ _ h => h) (Or.inl ⟨by rfl, ?hy⟩) hH ?_
            case hy => (intro w9_ hS9; clear hS9; go_simp; try with_reducible rfl)
            (try simp only [List.getElem_toArray, List.getElem_cons_zero, List.getElem_cons_succ, Act.put, List.setIfInBounds_toArray, List.set_cons_zero, List.set_cons_succ])
            refine wpAnyH_take (i := 11) (v := ?_) rfl (by kernel_rfl) (by kernel_rfl) (by kernel_rfl) (fun _ _ _ h => h) (Or.inl ⟨by rfl, ?hy⟩) hH ?_
            case hy => (intro w9_ hS9; clear hS9; go_simp; try with_reducible rfl)
            (try simp only [List.getElem_toArray, List.getElem_cons_zero, List.getElem_cons_succ, Act.put, List.setIfInBounds_toArray, List.set_cons_zero, List.set_cons_succ])
            refine wpAnyH_take (i := 12) (v := undef) rfl (by kernel_rfl) (by kernel_rfl) (by kernel_rfl) (fun _ _ _ h => h) (Or.inr ⟨by rfl, rfl⟩) hH ?_
            (try simp only [List.getElem_toArray, List.getElem_cons_zero, List.getElem_cons_succ, Act.put, List.setIfInBounds_toArray, List.set_cons_zero, List.set_cons_succ])
            refine wpAnyH_take (i := 13) (v := ?_) rfl (by kernel_rfl) (by kernel_rfl) (by kernel_rfl) (fun _ _ _ h => h) (Or.inl ⟨by rfl, ?hy⟩) hH ?_
            case hy => (intro w9_ hS9; clear hS9; go_simp; try with_reducible rfl)
            (try simp only [List.getElem_toArray, List.getElem_cons_zero, List.getElem_cons_succ, Act.put, List.setIfInBounds_toArray, List.set_cons_zero, List.set_cons_succ])
            refine wpAnyH_take (i := 14) (v := ?_) rfl (by kernel_rfl) (by kernel_rfl) (by kernel_rfl) (fun _ _ _ h => h) (Or.inl ⟨by rfl, ?hy⟩) hH ?_
            case hy => (intro w9_ hS9; clear hS9; go_simp; try with_reducible rfl)
            (try simp only [List.getElem_toArray, List.getElem_cons_zero, List.getElem_cons_succ, Act.put, List.setIfInBounds_toArray, List.set_cons_zero, List.set_cons_succ])
            refine wpAnyH_done (by kernel_rfl) ?_ _
            have HV7 := Lib.hid (HV6.out.next hH); have HA7 := Lib.hid (HA6.out.next hH); have HF7 := Lib.hid (HF6.out.next hH)
            replace c1 : w7.cell? ⟨w5.heap.size, 1, none⟩ = some (.int .i64 dd) := (hH.cell (p := ⟨w5.heap.size, 1, none⟩) hbn).trans c1
            have hbn7 : w5.heap.size < w7.heap.size := Nat.lt_of_lt_of_le hbn hH.size
            clear hH T_1 z_1 F_1 c0 c20
            have hz0 : f = 0 ∨ ∃ ff, f = ff + 1 := by rcases f with _ | ff; exact .inl rfl; exact .inr ⟨ff, rfl⟩
            rcases hz0 with rfl | ⟨ff, rfl⟩
            · go_wp2_with fail
              refine (c_VStep0 HV7.out HA7.out).mono ?_
              rintro e w8 ⟨rfl, hb8⟩
              have HV8 := Lib.hid (HV7.out.next hb8); have HA8 := Lib.hid (HA7.out.next hb8); have HF8 := Lib.hid (HF7.out.next hb8)
              have d1 : w8.cell? ⟨w5.heap.size, 1, none⟩ = some (.int .i64 dd) := (hb8.cell (p := ⟨w5.heap.size, 1, none⟩) hbn7).trans c1
              have hbn8 : w5.heap.size < w8.heap.size := Nat.lt_of_lt_of_le hbn7 hb8.size
              clear hb8 c1
              go_wp2_with fail
              refine (show Calls Tryd.prog _ _ _ (fun e w' => e = .returned (.int .i64 0) ∧ _) from c_VFuel HV8.out HA8.out).mono ?_
              rintro e w9 ⟨rfl, hb9⟩
              have HF9 := Lib.hid (HF8.out.next hb9)
              replace d1 := (hb9.cell (p := ⟨w5.heap.size, 1, none⟩) hbn8).trans d1
              go_wp2_with fail
              go_ret
              exact ⟨rfl, BEL.out _ HF9.out⟩
            · by_cases h4 : te im.code M i = 0
              · have H4 := Lib.hid h4; clear h4
                have hfz : ff = 0 ∨ 0 < ff := by omega
                have hs := c_VStepOk HV7.out HVE.out (j := i) (f := ff) (by omega) (by have := HIF.out; omega) (by have := HIF.out; omega) HA7.out H4.out
                have HSS := Lib.hid hs
                clear hs
                rcases hfz with rfl | hfz
                · go_wp2_with fail
                  refine HSS.out.mono ?_
                  rintro e w8 ⟨rfl, hA8, hf8⟩
                  have HV8 := Lib.hid (HV7.out.fr hf8); have HA8 := Lib.hid hA8; have HF8 := Lib.hid (HF7.out.trans hf8)
                  have d1 : w8.cell? ⟨w5.heap.size, 1, none⟩ = some (.int .i64 dd) := (hf8.cell hbn7 hbO 1).trans c1
                  have hbn8 : w5.heap.size < w8.heap.size := Nat.lt_of_lt_of_le hbn7 hf8.size
                  clear hA8 hf8 c1
                  go_wp2_with fail
                  refine (c_VFuel HV8.out HA8.out).mono ?_
                  rintro e w9 ⟨rfl, hb9⟩
                  have HF9 := Lib.hid (HF8.out.next hb9); have HA9 := Lib.hid (HA8.out.next hb9)
                  replace d1 := (hb9.cell (p := ⟨w5.heap.size, 1, none⟩) hbn8).trans d1
                  go_wp2_with fail
                  exact ⟨⟨i + 1, 0, by omega, by go_num, by have := HIF.out; omega, HA9.out, HF9.out⟩, by simp [intOf]; omega⟩
                · have hfp : (0 : Int) < (ff : Int) := by omega
                  go_wp2_with fail
                  refine HSS.out.mono ?_
                  rintro e w8 ⟨rfl, hA8, hf8⟩
                  have HV8 := Lib.hid (HV7.out.fr hf8); have HA8 := Lib.hid hA8; have HF8 := Lib.hid (HF7.out.trans hf8)
                  have d1 : w8.cell? ⟨w5.heap.size, 1, none⟩ = some (.int .i64 dd) := (hf8.cell hbn7 hbO 1).trans c1
                  have hbn8 : w5.heap.size < w8.heap.size := Nat.lt_of_lt_of_le hbn7 hf8.size
                  clear hA8 hf8 c1
                  go_wp2_with fail
                  refine (c_VFuel HV8.out HA8.out).mono ?_
                  rintro e w9 ⟨rfl, hb9⟩
                  have HF9 := Lib.hid (HF8.out.next hb9); have HA9 := Lib.hid (HA8.out.next hb9)
                  replace d1 := (hb9.cell (p := ⟨w5.heap.size, 1, none⟩) hbn8).trans d1
                  go_wp2_with fail
                  exact ⟨⟨i + 1, ff, by omega, by go_num, by have := HIF.out; omega, HA9.out, HF9.out⟩, by simp [intOf]; omega⟩
              · have hs := c_VStepErr HV7.out HVE.out (j := i) (f := ff) (by omega) (by have := HIF.out; omega) (by have := HIF.out; omega) HA7.out h4
                have hf0 : (0 : Int) < ((ff + 1 : Nat) : Int) := by omega
                obtain ⟨f1, hf1⟩ : ∃ f1, ff + 1 = f1 := ⟨_, rfl⟩
                rw [hf1] at hs hf0
                obtain ⟨ee, hee⟩ : ∃ ee, te im.code M i = ee := ⟨_, rfl⟩
                rw [hee] at hs h4
                have h5 : (ee != 0) = true := by simpa using h4
                have HSS := Lib.hid hs
                clear hs h4 hee hf1
                go_wp2_with fail
                refine HSS.out.mono ?_
                rintro e w8 ⟨rfl, hA8, hf8⟩
                have HV8 := Lib.hid (HV7.out.fr hf8); have HA8 := Lib.hid hA8; have HF8 := Lib.hid (HF7.out.trans hf8)
                have d1 : w8.cell? ⟨w5.heap.size, 1, none⟩ = some (.int .i64 dd) := (hf8.cell hbn7 hbO 1).trans c1
                have hbn8 : w5.heap.size < w8.heap.size := Nat.lt_of_lt_of_le hbn7 hf8.size
                clear hA8 hf8 c1
                go_wp2_with fail
                refine (c_VFuel HV8.out HA8.out).mono ?_
                rintro e w9 ⟨rfl, hb9⟩
                have HF9 := Lib.hid (HF8.out.next hb9); have HA9 := Lib.hid (HA8.out.next hb9)
                replace d1 := (hb9.cell (p := ⟨w5.heap.size, 1, none⟩) hbn8).trans d1
                go_wp2_with fail
                go_ret
                exact ⟨rfl, BEL.out _ HF9.out⟩
        · have hkc : k < im.code.length := by omega
          obtain ⟨bc, oc, rfl, hbc, _⟩ := hR6.2 (by omega)
          have hxx := hR6.insAt hkc
          obtain ⟨op, hop⟩ : ∃ op, (im.code.getD k default).op = op := ⟨_, rfl⟩
          have x0 := hxx.c0
          rw [hop] at x0
          have HOP := Lib.hid hop
          have j1 : (0 : Int) ≤ (k : Int) := by omega
          have j2 : (k : Int) < (n : Int) := by omega
          have j3 : ((k : Int) == (n : Int)) = false := by simp; omega
          have hdl : decide ((k : Int) = (im.code.length : Int)) = false := decide_eq_false (by omega)
          clear hxx hR6 hop
          by_cases h34 : op = 34
          · subst h34
            have HATP : Hid ((k : Int) = im.code.length ∨ (k < im.code.length ∧ (im.code.getD k default).op = 34)) := Lib.hid (.inr ⟨hkc, HOP.out⟩)
            by_cases hD : dd = 1
            · subst hD
              by_cases hC0 : cl = 0
              · subst hC0
                obtain rfl : hv = true := by rw [HHT.out]; rw [hdl, HOP.out]; rfl
                go_upto_region 10 with fail
                refine wp_region_held_drew (S := fun W => Below w6.heap.size w6 W) (by kernel_rfl) ((Below.refl _ _).drew) (fun hH => ?_)
                refine wpAnyH_take (i := 0) (v := ?_) rfl (by kernel_rfl) (by kernel_rfl) (by kernel_rfl) (fun _ _ _ h => h) (Or.inl ⟨by rfl, ?hy⟩) hH ?_
                case hy => (intro w9_ hS9; clear hS9; go_simp; try with_reducible rfl)
                (try simp only [List.getElem_toArray, List.getElem_cons_zero, List.getElem_cons_succ, Act.put, List.setIfInBounds_toArray, List.set_cons_zero, List.set_cons_succ])
                refine wpAnyH_take (i := 2) (v := ?_) rfl (by kernel_rfl) (by kernel_rfl) (by kernel_rfl) (fun _ _ _ h => h) (Or.inl ⟨by rfl, ?hy⟩) hH ?_
                case hy => (intro w9_ hS9; clear hS9; go_simp; try with_reducible rfl)
                (try simp only [List.getElem_toArray, List.getElem_cons_zero, List.getElem_cons_succ, Act.put, List.setIfInBounds_toArray, List.set_cons_zero, List.set_cons_succ])
                refine wpAnyH_take (i := 3) (v := ?_) rfl (by kernel_rfl) (by kernel_rfl) (by kernel_rfl) (fun _ _ _ h => h) (Or.inl ⟨by rfl, ?hy⟩) hH ?_
                case hy => (intro w9_ hS9; have T9 : w9_.cell? ⟨w5.heap.size, 1, none⟩ = some (.int .i64 1) := (hS9.cell (p := ⟨w5.heap.size, 1, none⟩) hbn).trans c1; clear hS9; go_simp; try with_reducible rfl)
                (try simp only [List.getElem_toArray, List.getElem_cons_zero, List.getElem_cons_succ, Act.put, List.setIfInBounds_toArray, List.set_cons_zero, List.set_cons_succ])
                refine wpAnyH_take (i := 4) (v := ?_) rfl (by kernel_rfl) (by kernel_rfl) (by kernel_rfl) (fun _ _ _ h => h) (Or.inl ⟨by rfl, ?hy⟩) hH ?_
                case hy => (intro w9_ hS9; clear hS9; go_simp; try with_reducible rfl)
                (try simp only [List.getElem_toArray, List.getElem_cons_zero, List.getElem_cons_succ, Act.put, List.setIfInBounds_toArray, List.set_cons_zero, List.set_cons_succ])
                refine wpAnyH_ready (rs := [1]) (by kernel_rfl) (by simp) ?_
                refine AllReadyH.cons rfl (fun K hK => ?_) (AllReadyH.nil)
                go_simp
                refine (show Calls Tryd.prog _ _ _ (fun e w' => e = .returned (.bool true) ∧ _) from (by have hs := c_VHalted (HV6.out.next hH) HVE.out (j := i) (by omega) (HA6.out.next hH); rw [HHV.out] at hs; exact hs)).mono ?_
                rintro e w7 ⟨rfl, hb7⟩
                replace hH := hH.next hb7
                clear hb7
                refine hK.out _ _ hH (fun _ => ?_)
                clear hK
                (try simp only [List.getElem_toArray, List.getElem_cons_zero, List.getElem_cons_succ, Act.put, List.setIfInBounds_toArray, List.set_cons_zero, List.set_cons_succ])
                refine wpAnyH_take (i := 5) (v := ?_) rfl (by kernel_rfl) (by kernel_rfl) (by kernel_rfl) (fun _ _ _ h => h) (Or.inl ⟨by rfl, ?hy⟩) hH ?_
                case hy => (intro w9_ hS9; clear hS9; go_simp; try with_reducible rfl)
                (try simp only [List.getElem_toArray, List.getElem_cons_zero, List.getElem_cons_succ, Act.put, List.setIfInBounds_toArray, List.set_cons_zero, List.set_cons_succ])
                refine wpAnyH_take (i := 6) (v := ?_) rfl (by kernel_rfl) (by kernel_rfl) (by kernel_rfl) (fun _ _ _ h => h) (Or.inl ⟨by rfl, ?hy⟩) hH ?_
                case hy => (intro w9_ hS9; clear hS9; go_simp; try with_reducible rfl)
                (try simp only [List.getElem_toArray, List.getElem_cons_zero, List.getElem_cons_succ, Act.put, List.setIfInBounds_toArray, List.set_cons_zero, List.set_cons_succ])
                refine wpAnyH_take (i := 7) (v := ?_) rfl (by kernel_rfl) (by kernel_rfl) (by kernel_rfl) (fun _ _ _ h => h) (Or.inl ⟨by rfl, ?hy⟩) hH ?_
                case hy => (intro w9_ hS9; have T9 : w9_.cell? ⟨w5.heap.size, 20, none⟩ = some (.slice Ac 0 cc) := (hS9.cell (p := ⟨w5.heap.size, 20, none⟩) hbn).trans c20; clear hS9; go_simp; try with_reducible rfl)
                (try simp only [List.getElem_toArray, List.getElem_cons_zero, List.getElem_cons_succ, Act.put, List.setIfInBounds_toArray, List.set_cons_zero, List.set_cons_succ])
                refine wpAnyH_take (i := 8) (v := ?_) rfl (by kernel_rfl) (by kernel_rfl) (by kernel_rfl) (fun _ _ _ h => h) (Or.inl ⟨by rfl, ?hy⟩) hH ?_
                case hy => (intro w9_ hS9; clear hS9; go_simp; try with_reducible rfl)
                (try simp only [List.getElem_toArray, List.getElem_cons_zero, List.getElem_cons_succ, Act.put, List.setIfInBounds_toArray, List.set_cons_zero, List.set_cons_succ])
                refine wpAnyH_take (i := 9) (v := ?_) rfl (by kernel_rfl) (by kernel_rfl) (by kernel_rfl) (fun _ _ _ h => h) (Or.inl ⟨by rfl, ?hy⟩) hH ?_
                case hy => (intro w9_ hS9; clear hS9; go_simp; try with_reducible rfl)
                (try simp only [List.getElem_toArray, List.getElem_cons_zero, List.getElem_cons_succ, Act.put, List.setIfInBounds_toArray, List.set_cons_zero, List.set_cons_succ])
                refine wpAnyH_take (i := 10) (v := ?_) rfl (by kernel_rfl) (by kernel_rfl) (by kernel_rfl) (fun _ _ _ h => h) (Or.inl ⟨by rfl, ?hy⟩) hH ?_
                case hy => (intro w9_ hS9; clear hS9; go_simp; try with_reducible rfl)
                (try simp only [List.getElem_toArray, List.getElem_cons_zero, List.getElem_cons_succ, Act.put, List.setIfInBounds_toArray, List.set_cons_zero, List.set_cons_succ])
                refine wpAnyH_take (i := 11) (v := ?_) rfl (by kernel_rfl) (by kernel_rfl) (by kernel_rfl) (fun _ _ _ h => h) (Or.inl ⟨by rfl, ?hy⟩) hH ?_
                case hy => (intro w9_ hS9; clear hS9; go_simp; try with_reducible rfl)
                (try simp only [List.getElem_toArray, List.getElem_cons_zero, List.getElem_cons_succ, Act.put, List.setIfInBounds_toArray, List.set_cons_zero, List.set_cons_succ])
                refine wpAnyH_take (i := 12) (v := ?_) rfl (by kernel_rfl) (by kernel_rfl) (by kernel_rfl) (fun _ _ _ h => h) (Or.inl ⟨by rfl, ?hy⟩) hH ?_
                case hy => (intro w9_ hS9; clear hS9; go_simp; try with_reducible rfl)
                (try simp only [List.getElem_toArray, List.getElem_cons_zero, List.getElem_cons_succ, Act.put, List.setIfInBounds_toArray, List.set_cons_zero, List.set_cons_succ])
                refine wpAnyH_take (i := 13) (v := ?_) rfl (by kernel_rfl) (by kernel_rfl) (by kernel_rfl) (fun _ _ _ h => h) (Or.inl ⟨by rfl, ?hy⟩) hH ?_
                case hy => (intro w9_ hS9; clear hS9; go_simp; try with_reducible rfl)
                (try simp only [List.getElem_toArray, List.getElem_cons_zero, List.getElem_cons_succ, Act.put, List.setIfInBounds_toArray, List.set_cons_zero, List.set_cons_succ])
                refine wpAnyH_take (i := 14) (v := ?_) rfl (by kernel_rfl) (by kernel_rfl) (by kernel_rfl) (fun _ _ _ h => h) (Or.inl ⟨by rfl, ?hy⟩) hH ?_
                case hy => (intro w9_ hS9; clear hS9; go_simp; try with_reducible rfl)
                (try simp only [List.getElem_toArray, List.getElem_cons_zero, List.getElem_cons_succ, Act.put, List.setIfInBounds_toArray, List.set_cons_zero, List.set_cons_succ])
                refine wpAnyH_done (by kernel_rfl) ?_ _
                have HV7 := Lib.hid (HV6.out.next hH); have HA7 := Lib.hid (HA6.out.next hH); have HF7 := Lib.hid (HF6.out.next hH)
                replace c1 : w7.cell? ⟨w5.heap.size, 1, none⟩ = some (.int .i64 1) := (hH.cell (p := ⟨w5.heap.size, 1, none⟩) hbn).trans c1
                have hbn7 : w5.heap.size < w7.heap.size := Nat.lt_of_lt_of_le hbn hH.size
                clear hH T_1 z_1 F_1 c0 c20
                have hz0 : f = 0 ∨ ∃ ff, f = ff + 1 := by rcases f with _ | ff; exact .inl rfl; exact .inr ⟨ff, rfl⟩
                rcases hz0 with rfl | ⟨ff, rfl⟩
                · go_wp2_with fail
                  refine (c_VStep0 HV7.out HA7.out).mono ?_
                  rintro e w8 ⟨rfl, hb8⟩
                  have HV8 := Lib.hid (HV7.out.next hb8); have HA8 := Lib.hid (HA7.out.next hb8); have HF8 := Lib.hid (HF7.out.next hb8)
                  have d1 : w8.cell? ⟨w5.heap.size, 1, none⟩ = some (.int .i64 1) := (hb8.cell (p := ⟨w5.heap.size, 1, none⟩) hbn7).trans c1
                  have hbn8 : w5.heap.size < w8.heap.size := Nat.lt_of_lt_of_le hbn7 hb8.size
                  clear hb8 c1
                  go_wp2_with fail
                  refine (show Calls Tryd.prog _ _ _ (fun e w' => e = .returned (.int .i64 0) ∧ _) from c_VFuel HV8.out HA8.out).mono ?_
                  rintro e w9 ⟨rfl, hb9⟩
                  have HF9 := Lib.hid (HF8.out.next hb9)
                  replace d1 := (hb9.cell (p := ⟨w5.heap.size, 1, none⟩) hbn8).trans d1
                  go_wp2_with fail
                  go_ret
                  exact ⟨rfl, BEL.out _ HF9.out⟩
                · have h4 : te im.code M i = 4 := HTE.out rfl HATP.out
                  have hs := c_VStepErr HV7.out HVE.out (j := i) (f := ff) (by omega) (by have := HIF.out; omega) (by have := HIF.out; omega) HA7.out (by rw [h4]; decide)
                  rw [h4] at hs
                  have hf0 : (0 : Int) < ((ff + 1 : Nat) : Int) := by omega
                  obtain ⟨f1, hf1⟩ : ∃ f1, ff + 1 = f1 := ⟨_, rfl⟩
                  rw [hf1] at hs hf0
                  have HSS := Lib.hid hs
                  clear hs h4 hf1
                  go_wp2_with fail
                  refine HSS.out.mono ?_
                  rintro e w8 ⟨rfl, hA8, hf8⟩
                  have HV8 := Lib.hid (HV7.out.fr hf8); have HA8 := Lib.hid hA8; have HF8 := Lib.hid (HF7.out.trans hf8)
                  have d1 : w8.cell? ⟨w5.heap.size, 1, none⟩ = some (.int .i64 1) := (hf8.cell hbn7 hbO 1).trans c1
                  have hbn8 : w5.heap.size < w8.heap.size := Nat.lt_of_lt_of_le hbn7 hf8.size
                  clear hA8 hf8 c1
                  go_wp2_with fail
                  refine (c_VFuel HV8.out HA8.out).mono ?_
                  rintro e w9 ⟨rfl, hb9⟩
                  have HF9 := Lib.hid (HF8.out.next hb9); have HA9 := Lib.hid (HA8.out.next hb9)
                  replace d1 := (hb9.cell (p := ⟨w5.heap.size, 1, none⟩) hbn8).trans d1
                  go_wp2_with fail
                  go_ret
                  exact ⟨rfl, BEL.out _ HF9.out⟩
              · have hC1 : ((cl : Int) == 0) = false := by simp; omega
                have hC2 : ¬ cl = 0 := hC0
                obtain rfl : hv = false := by rw [HHT.out]; rw [decide_eq_false hC2]; rfl
                go_upto_region 10 with fail
                refine wp_region_held_drew (S := fun W => Below w6.heap.size w6 W) (by kernel_rfl) ((Below.refl _ _).drew) (fun hH => ?_)
                refine wpAnyH_take (i := 0) (v := ?_) rfl (by kernel_rfl) (by kernel_rfl) (by kernel_rfl) (fun _ _ _ h => h) (Or.inl ⟨by rfl, ?hy⟩) hH ?_
                case hy => (intro w9_ hS9; clear hS9; go_simp; try with_reducible rfl)
                (try simp only [List.getElem_toArray, List.getElem_cons_zero, List.getElem_cons_succ, Act.put, List.setIfInBounds_toArray, List.set_cons_zero, List.set_cons_succ])
                refine wpAnyH_take (i := 2) (v := ?_) rfl (by kernel_rfl) (by kernel_rfl) (by kernel_rfl) (fun _ _ _ h => h) (Or.inl ⟨by rfl, ?hy⟩) hH ?_
                case hy => (intro w9_ hS9; clear hS9; go_simp; try with_reducible rfl)
                (try simp only [List.getElem_toArray, List.getElem_cons_zero, List.getElem_cons_succ, Act.put, List.setIfInBounds_toArray, List.set_cons_zero, List.set_cons_succ])
                refine wpAnyH_take (i := 3) (v := ?_) rfl (by kernel_rfl) (by kernel_rfl) (by kernel_rfl) (fun _ _ _ h => h) (Or.inl ⟨by rfl, ?hy⟩) hH ?_
                case hy => (intro w9_ hS9; have T9 : w9_.cell? ⟨w5.heap.size, 1, none⟩ = some (.int .i64 1) := (hS9.cell (p := ⟨w5.heap.size, 1, none⟩) hbn).trans c1; clear hS9; go_simp; try with_reducible rfl)
                (try simp only [List.getElem_toArray, List.getElem_cons_zero, List.getElem_cons_succ, Act.put, List.setIfInBounds_toArray, List.set_cons_zero, List.set_cons_succ])
                refine wpAnyH_take (i := 4) (v := ?_) rfl (by kernel_rfl) (by kernel_rfl) (by kernel_rfl) (fun _ _ _ h => h) (Or.inl ⟨by rfl, ?hy⟩) hH ?_
                case hy => (intro w9_ hS9; clear hS9; go_simp; try with_reducible rfl)
                (try simp only [List.getElem_toArray, List.getElem_cons_zero, List.getElem_cons_succ, Act.put, List.setIfInBounds_toArray, List.set_cons_zero, List.set_cons_succ])
                refine wpAnyH_ready (rs := [1]) (by kernel_rfl) (by simp) ?_
                refine AllReadyH.cons rfl (fun K hK => ?_) (AllReadyH.nil)
                go_simp
                refine (show Calls Tryd.prog _ _ _ (fun e w' => e = .returned (.bool false) ∧ _) from (by have hs := c_VHalted (HV6.out.next hH) HVE.out (j := i) (by omega) (HA6.out.next hH); rw [HHV.out] at hs; exact hs)).mono ?_
                rintro e w7 ⟨rfl, hb7⟩
                replace hH := hH.next hb7
                clear hb7
                refine hK.out _ _ hH (fun _ => ?_)
                clear hK
                (try simp only [List.getElem_toArray, List.getElem_cons_zero, List.getElem_cons_succ, Act.put, List.setIfInBounds_toArray, List.set_cons_zero, List.set_cons_succ])
                refine wpAnyH_take (i := 5) (v := ?_) rfl (by kernel_rfl) (by kernel_rfl) (by kernel_rfl) (fun _ _ _ h => h) (Or.inl ⟨by rfl, ?hy⟩) hH ?_
                case hy => (intro w9_ hS9; clear hS9; go_simp; try with_reducible rfl)
                (try simp only [List.getElem_toArray, List.getElem_cons_zero, List.getElem_cons_succ, Act.put, List.setIfInBounds_toArray, List.set_cons_zero, List.set_cons_succ])
                refine wpAnyH_take (i := 6) (v := ?_) rfl (by kernel_rfl) (by kernel_rfl) (by kernel_rfl) (fun _ _ _ h => h) (Or.inl ⟨by rfl, ?hy⟩) hH ?_
                case hy => (intro w9_ hS9; clear hS9; go_simp; try with_reducible rfl)
                (try simp only [List.getElem_toArray, List.getElem_cons_zero, List.getElem_cons_succ, Act.put, List.setIfInBounds_toArray, List.set_cons_zero, List.set_cons_succ])
                refine wpAnyH_take (i := 7) (v := ?_) rfl (by kernel_rfl) (by kernel_rfl) (by kernel_rfl) (fun _ _ _ h => h) (Or.inl ⟨by rfl, ?hy⟩) hH ?_
                case hy => (intro w9_ hS9; have T9 : w9_.cell? ⟨w5.heap.size, 20, none⟩ = some (.slice Ac cl cc) := (hS9.cell (p := ⟨w5.heap.size, 20, none⟩) hbn).trans c20; clear hS9; go_simp; try with_reducible rfl)
                (try simp only [List.getElem_toArray, List.getElem_cons_zero, List.getElem_cons_succ, Act.put, List.setIfInBounds_toArray, List.set_cons_zero, List.set_cons_succ])
                refine wpAnyH_take (i := 8) (v := ?_) rfl (by kernel_rfl) (by kernel_rfl) (by kernel_rfl) (fun _ _ _ h => h) (Or.inl ⟨by rfl, ?hy⟩) hH ?_
                case hy => (intro w9_ hS9; clear hS9; go_simp; try with_reducible rfl)
                (try simp only [List.getElem_toArray, List.getElem_cons_zero, List.getElem_cons_succ, Act.put, List.setIfInBounds_toArray, List.set_cons_zero, List.set_cons_succ])
                refine wpAnyH_take (i := 9) (v := ?_) rfl (by kernel_rfl) (by kernel_rfl) (by kernel_rfl) (fun _ _ _ h => h) (Or.inl ⟨by rfl, ?hy⟩) hH ?_
                case hy => (intro w9_ hS9; clear hS9; go_simp; try with_reducible rfl)
                (try simp only [List.getElem_toArray, List.getElem_cons_zero, List.getElem_cons_succ, Act.put, List.setIfInBounds_toArray, List.set_cons_zero, List.set_cons_succ])
                refine wpAnyH_take (i := 10) (v := ?_) rfl (by kernel_rfl) (by kernel_rfl) (by kernel_rfl) (fun _ _ _ h => h) (Or.inl ⟨by rfl, ?hy⟩) hH ?_
                case hy => (intro w9_ hS9; clear hS9; go_simp; try with_reducible rfl)
                (try simp only [List.getElem_toArray, List.getElem_cons_zero, List.getElem_cons_succ, Act.put, List.setIfInBounds_toArray, List.set_cons_zero, List.set_cons_succ])
                refine wpAnyH_take (i := 11) (v := ?_) rfl (by kernel_rfl) (by kernel_rfl) (by kernel_rfl) (fun _ _ _ h => h) (Or.inl ⟨by rfl, ?hy⟩) hH ?_
                case hy => (intro w9_ hS9; clear hS9; go_simp; try with_reducible rfl)
                (try simp only [List.getElem_toArray, List.getElem_cons_zero, List.getElem_cons_succ, Act.put, List.setIfInBounds_toArray, List.set_cons_zero, List.set_cons_succ])
                refine wpAnyH_take (i := 12) (v := undef) rfl (by kernel_rfl) (by kernel_rfl) (by kernel_rfl) (fun _ _ _ h => h) (Or.inr ⟨by rfl, rfl⟩) hH ?_
                (try simp only [List.getElem_toArray, List.getElem_cons_zero, List.getElem_cons_succ, Act.put, List.setIfInBounds_toArray, List.set_cons_zero, List.set_cons_succ])
                refine wpAnyH_take (i := 13) (v := ?_) rfl (by kernel_rfl) (by kernel_rfl) (by kernel_rfl) (fun _ _ _ h => h) (Or.inl ⟨by rfl, ?hy⟩) hH ?_
                case hy => (intro w9_ hS9; clear hS9; go_simp; try with_reducible rfl)
                (try simp only [List.getElem_toArray, List.getElem_cons_zero, List.getElem_cons_succ, Act.put, List.setIfInBounds_toArray, List.set_cons_zero, List.set_cons_succ])
                refine wpAnyH_take (i := 14) (v := ?_) rfl (by kernel_rfl) (by kernel_rfl) (by kernel_rfl) (fun _ _ _ h => h) (Or.inl ⟨by rfl, ?hy⟩) hH ?_
                case hy => (intro w9_ hS9; clear hS9; go_simp; try with_reducible rfl)
                (try simp only [List.getElem_toArray, List.getElem_cons_zero, List.getElem_cons_succ, Act.put, List.setIfInBounds_toArray, List.set_cons_zero, List.set_cons_succ])
                refine wpAnyH_done (by kernel_rfl) ?_ _
                have HV7 := Lib.hid (HV6.out.next hH); have HA7 := Lib.hid (HA6.out.next hH); have HF7 := Lib.hid (HF6.out.next hH)
                replace c1 : w7.cell? ⟨w5.heap.size, 1, none⟩ = some (.int .i64 1) := (hH.cell (p := ⟨w5.heap.size, 1, none⟩) hbn).trans c1
                have hbn7 : w5.heap.size < w7.heap.size := Nat.lt_of_lt_of_le hbn hH.size
                clear hH T_1 z_1 F_1 c0 c20
                have hz0 : f = 0 ∨ ∃ ff, f = ff + 1 := by rcases f with _ | ff; exact .inl rfl; exact .inr ⟨ff, rfl⟩
                rcases hz0 with rfl | ⟨ff, rfl⟩
                · go_wp2_with fail
                  refine (c_VStep0 HV7.out HA7.out).mono ?_
                  rintro e w8 ⟨rfl, hb8⟩
                  have HV8 := Lib.hid (HV7.out.next hb8); have HA8 := Lib.hid (HA7.out.next hb8); have HF8 := Lib.hid (HF7.out.next hb8)
                  have d1 : w8.cell? ⟨w5.heap.size, 1, none⟩ = some (.int .i64 1) := (hb8.cell (p := ⟨w5.heap.size, 1, none⟩) hbn7).trans c1
                  have hbn8 : w5.heap.size < w8.heap.size := Nat.lt_of_lt_of_le hbn7 hb8.size
                  clear hb8 c1
                  go_wp2_with fail
                  refine (show Calls Tryd.prog _ _ _ (fun e w' => e = .returned (.int .i64 0) ∧ _) from c_VFuel HV8.out HA8.out).mono ?_
                  rintro e w9 ⟨rfl, hb9⟩
                  have HF9 := Lib.hid (HF8.out.next hb9)
                  replace d1 := (hb9.cell (p := ⟨w5.heap.size, 1, none⟩) hbn8).trans d1
                  go_wp2_with fail
                  go_ret
                  exact ⟨rfl, BEL.out _ HF9.out⟩
                · have h4 : te im.code M i = 4 := HTE.out rfl HATP.out
                  have hs := c_VStepErr HV7.out HVE.out (j := i) (f := ff) (by omega) (by have := HIF.out; omega) (by have := HIF.out; omega) HA7.out (by rw [h4]; decide)
                  rw [h4] at hs
                  have hf0 : (0 : Int) < ((ff + 1 : Nat) : Int) := by omega
                  obtain ⟨f1, hf1⟩ : ∃ f1, ff + 1 = f1 := ⟨_, rfl⟩
                  rw [hf1] at hs hf0
                  have HSS := Lib.hid hs
                  clear hs h4 hf1
                  go_wp2_with fail
                  refine HSS.out.mono ?_
                  rintro e w8 ⟨rfl, hA8, hf8⟩
                  have HV8 := Lib.hid (HV7.out.fr hf8); have HA8 := Lib.hid hA8; have HF8 := Lib.hid (HF7.out.trans hf8)
                  have d1 : w8.cell? ⟨w5.heap.size, 1, none⟩ = some (.int .i64 1) := (hf8.cell hbn7 hbO 1).trans c1
                  have hbn8 : w5.heap.size < w8.heap.size := Nat.lt_of_lt_of_le hbn7 hf8.size
                  clear hA8 hf8 c1
                  go_wp2_with fail
                  refine (c_VFuel HV8.out HA8.out).mono ?_
                  rintro e w9 ⟨rfl, hb9⟩
                  have HF9 := Lib.hid (HF8.out.next hb9); have HA9 := Lib.hid (HA8.out.next hb9)
                  replace d1 := (hb9.cell (p := ⟨w5.heap.size, 1, none⟩) hbn8).trans d1
                  go_wp2_with fail
                  go_ret
                  exact ⟨rfl, BEL.out _ HF9.out⟩
            · have hD1 : (dd == 1) = false := by simpa using hD
              obtain rfl : hv = false := by rw [HHT.out]; rw [decide_eq_false hD]; rfl
              go_upto_region 10 with fail
              refine wp_region_held_drew (S := fun W => Below w6.heap.size w6 W) (by kernel_rfl) ((Below.refl _ _).drew) (fun hH => ?_)
              refine wpAnyH_take (i := 0) (v := ?_) rfl (by kernel_rfl) (by kernel_rfl) (by kernel_rfl) (fun _ _ _ h => h) (Or.inl ⟨by rfl, ?hy⟩) hH ?_
              case hy => (intro w9_ hS9; clear hS9; go_simp; try with_reducible rfl)
              (try simp only [List.getElem_toArray, List.getElem_cons_zero, List.getElem_cons_succ, Act.put, List.setIfInBounds_toArray, List.set_cons_zero, List.set_cons_succ])
              refine wpAnyH_take (i := 2) (v := ?_) rfl (by kernel_rfl) (by kernel_rfl) (by kernel_rfl) (fun _ _ _ h => h) (Or.inl ⟨by rfl, ?hy⟩) hH ?_
              case hy => (intro w9_ hS9; clear hS9; go_simp; try with_reducible rfl)
              (try simp only [List.getElem_toArray, List.getElem_cons_zero, List.getElem_cons_succ, Act.put, List.setIfInBounds_toArray, List.set_cons_zero, List.set_cons_succ])
              refine wpAnyH_take (i := 3) (v := ?_) rfl (by kernel_rfl) (by kernel_rfl) (by kernel_rfl) (fun _ _ _ h => h) (Or.inl ⟨by rfl, ?hy⟩) hH ?_
              case hy => (intro w9_ hS9; have T9 : w9_.cell? ⟨w5.heap.size, 1, none⟩ = some (.int .i64 dd) := (hS9.cell (p := ⟨w5.heap.size, 1, none⟩) hbn).trans c1; clear hS9; go_simp; try with_reducible rfl)
              (try simp only [List.getElem_toArray, List.getElem_cons_zero, List.getElem_cons_succ, Act.put, List.setIfInBounds_toArray, List.set_cons_zero, List.set_cons_succ])
              refine wpAnyH_take (i := 4) (v := ?_) rfl (by kernel_rfl) (by kernel_rfl) (by kernel_rfl) (fun _ _ _ h => h) (Or.inl ⟨by rfl, ?hy⟩) hH ?_
              case hy => (intro w9_ hS9; clear hS9; go_simp; try with_reducible rfl)
              (try simp only [List.getElem_toArray, List.getElem_cons_zero, List.getElem_cons_succ, Act.put, List.setIfInBounds_toArray, List.set_cons_zero, List.set_cons_succ])
              refine wpAnyH_ready (rs := [1]) (by kernel_rfl) (by simp) ?_
              refine AllReadyH.cons rfl (fun K hK => ?_) (AllReadyH.nil)
              go_simp
              refine (show Calls Tryd.prog _ _ _ (fun e w' => e = .returned (.bool false) ∧ _) from (by have hs := c_VHalted (HV6.out.next hH) HVE.out (j := i) (by omega) (HA6.out.next hH); rw [HHV.out] at hs; exact hs)).mono ?_
              rintro e w7 ⟨rfl, hb7⟩
              replace hH := hH.next hb7
              clear hb7
              refine hK.out _ _ hH (fun _ => ?_)
              clear hK
              (try simp only [List.getElem_toArray, List.getElem_cons_zero, List.getElem_cons_succ, Act.put, List.setIfInBounds_toArray, List.set_cons_zero, List.set_cons_succ])
              refine wpAnyH_take (i := 5) (v := ?_) rfl (by kernel_rfl) (by kernel_rfl) (by kernel_rfl) (fun _ _ _ h => h) (Or.inl ⟨by rfl, ?hy⟩) hH ?_
              case hy => (intro w9_ hS9; clear hS9; go_simp; try with_reducible rfl)
              (try simp only [List.getElem_toArray, List.getElem_cons_zero, List.getElem_cons_succ, Act.put, List.setIfInBounds_toArray, List.set_cons_zero, List.set_cons_succ])
              refine wpAnyH_take (i := 6) (v := undef) rfl (by kernel_rfl) (by kernel_rfl) (by kernel_rfl) (fun _ _ _ h => h) (Or.inr ⟨by rfl, rfl⟩) hH ?_
              (try simp only [List.getElem_toArray, List.getElem_cons_zero, List.getElem_cons_succ, Act.put, List.setIfInBounds_toArray, List.set_cons_zero, List.set_cons_succ])
              refine wpAnyH_take (i := 7) (v := undef) rfl (by kernel_rfl) (by kernel_rfl) (by kernel_rfl) (fun _ _ _ h => h) (Or.inr ⟨by rfl, rfl⟩) hH ?_
              (try simp only [List.getElem_toArray, List.getElem_cons_zero, List.getElem_cons_succ, Act.put, List.setIfInBounds_toArray, List.set_cons_zero, List.set_cons_succ])
              refine wpAnyH_take (i := 8) (v := undef) rfl (by kernel_rfl) (by kernel_rfl) (by kernel_rfl) (fun _ _ _ h => h) (Or.inr ⟨by rfl, rfl⟩) hH ?_
              (try simp only [List.getElem_toArray, List.getElem_cons_zero, List.getElem_cons_succ, Act.put, List.setIfInBounds_toArray, List.set_cons_zero, List.set_cons_succ])
              refine wpAnyH_take (i := 9) (v := undef) rfl (by kernel_rfl) (by kernel_rfl) (by kernel_rfl) (fun _ _ _ h => h) (Or.inr ⟨by rfl, rfl⟩) hH ?_
              (try simp only [List.getElem_toArray, List.getElem_cons_zero, List.getElem_cons_succ, Act.put, List.setIfInBounds_toArray, List.set_cons_zero, List.set_cons_succ])
              refine wpAnyH_take (i := 10) (v := ?_) rfl (by kernel_rfl) (by kernel_rfl) (by kernel_rfl) (fun _ _ _ h => h) (Or.inl ⟨by rfl, ?hy⟩) hH ?_
              case hy => (intro w9_ hS9; clear hS9; go_simp; try with_reducible rfl)
              (try simp only [List.getElem_toArray, List.getElem_cons_zero, List.getElem_cons_succ, Act.put, List.setIfInBounds_toArray, List.set_cons_zero, List.set_cons_succ])
              refine wpAnyH_take (i := 11) (v := ?_) rfl (by kernel_rfl) (by kernel_rfl) (by kernel_rfl) (fun _ _ _ h => h) (Or.inl ⟨by rfl, ?hy⟩) hH ?_
              case hy => (intro w9_ hS9; clear hS9; go_simp; try with_reducible rfl)
              (try simp only [List.getElem_toArray, List.getElem_cons_zero, List.getElem_cons_succ, Act.put, List.setIfInBounds_toArray, List.set_cons_zero, List.set_cons_succ])
              refine wpAnyH_take (i := 12) (v := undef) rfl (by kernel_rfl) (by kernel_rfl) (by kernel_rfl) (fun _ _ _ h => h) (Or.inr ⟨by rfl, rfl⟩) hH ?_
              (try simp only [List.getElem_toArray, List.getElem_cons_zero, List.getElem_cons_succ, Act.put, List.setIfInBounds_toArray, List.set_cons_zero, List.set_cons_succ])
              refine wpAnyH_take (i := 13) (v := ?_) rfl (by kernel_rfl) (by kernel_rfl) (by kernel_rfl) (fun _ _ _ h => h) (Or.inl ⟨by rfl, ?hy⟩) hH ?_
              case hy => (intro w9_ hS9; clear hS9; go_simp; try with_reducible rfl)
              (try simp only [List.getElem_toArray, List.getElem_cons_zero, List.getElem_cons_succ, Act.put, List.setIfInBounds_toArray, List.set_cons_zero, List.set_cons_succ])
              refine wpAnyH_take (i := 14) (v := ?_) rfl (by kernel_rfl) (by kernel_rfl) (by kernel_rfl) (fun _ _ _ h => h) (Or.inl ⟨by rfl, ?hy⟩) hH ?_
              case hy => (intro w9_ hS9; clear hS9; go_simp; try with_reducible rfl)
              (try simp only [List.getElem_toArray, List.getElem_cons_zero, List.getElem_cons_succ, Act.put, List.setIfInBounds_toArray, List.set_cons_zero, List.set_cons_succ])
              refine wpAnyH_done (by kernel_rfl) ?_ _
              have HV7 := Lib.hid (HV6.out.next hH); have HA7 := Lib.hid (HA6.out.next hH); have HF7 := Lib.hid (HF6.out.next hH)
              replace c1 : w7.cell? ⟨w5.heap.size, 1, none⟩ = some (.int .i64 dd) := (hH.cell (p := ⟨w5.heap.size, 1, none⟩) hbn).trans c1
              have hbn7 : w5.heap.size < w7.heap.size := Nat.lt_of_lt_of_le hbn hH.size
              clear hH T_1 z_1 F_1 c0 c20
              have hz0 : f = 0 ∨ ∃ ff, f = ff + 1 := by rcases f with _ | ff; exact .inl rfl; exact .inr ⟨ff, rfl⟩
              rcases hz0 with rfl | ⟨ff, rfl⟩
              · go_wp2_with fail
                refine (c_VStep0 HV7.out HA7.out).mono ?_
                rintro e w8 ⟨rfl, hb8⟩
                have HV8 := Lib.hid (HV7.out.next hb8); have HA8 := Lib.hid (HA7.out.next hb8); have HF8 := Lib.hid (HF7.out.next hb8)
                have d1 : w8.cell? ⟨w5.heap.size, 1, none⟩ = some (.int .i64 dd) := (hb8.cell (p := ⟨w5.heap.size, 1, none⟩) hbn7).trans c1
                have hbn8 : w5.heap.size < w8.heap.size := Nat.lt_of_lt_of_le hbn7 hb8.size
                clear hb8 c1
                go_wp2_with fail
                refine (show Calls Tryd.prog _ _ _ (fun e w' => e = .returned (.int .i64 0) ∧ _) from c_VFuel HV8.out HA8.out).mono ?_
                rintro e w9 ⟨rfl, hb9⟩
                have HF9 := Lib.hid (HF8.out.next hb9)
                replace d1 := (hb9.cell (p := ⟨w5.heap.size, 1, none⟩) hbn8).trans d1
                go_wp2_with fail
                go_ret
                exact ⟨rfl, BEL.out _ HF9.out⟩
              · by_cases h4 : te im.code M i = 0
                · have H4 := Lib.hid h4; clear h4
                  have hfz : ff = 0 ∨ 0 < ff := by omega
                  have hs := c_VStepOk HV7.out HVE.out (j := i) (f := ff) (by omega) (by have := HIF.out; omega) (by have := HIF.out; omega) HA7.out H4.out
                  have HSS := Lib.hid hs
                  clear hs
                  rcases hfz with rfl | hfz
                  · go_wp2_with fail
                    refine HSS.out.mono ?_
                    rintro e w8 ⟨rfl, hA8, hf8⟩
                    have HV8 := Lib.hid (HV7.out.fr hf8); have HA8 := Lib.hid hA8; have HF8 := Lib.hid (HF7.out.trans hf8)
                    have d1 : w8.cell? ⟨w5.heap.size, 1, none⟩ = some (.int .i64 dd) := (hf8.cell hbn7 hbO 1).trans c1
                    have hbn8 : w5.heap.size < w8.heap.size := Nat.lt_of_lt_of_le hbn7 hf8.size
                    clear hA8 hf8 c1
                    go_wp2_with fail
                    refine (c_VFuel HV8.out HA8.out).mono ?_
                    rintro e w9 ⟨rfl, hb9⟩
                    have HF9 := Lib.hid (HF8.out.next hb9); have HA9 := Lib.hid (HA8.out.next hb9)
                    replace d1 := (hb9.cell (p := ⟨w5.heap.size, 1, none⟩) hbn8).trans d1
                    go_wp2_with fail
                    exact ⟨⟨i + 1, 0, by omega, by go_num, by have := HIF.out; omega, HA9.out, HF9.out⟩, by simp [intOf]; omega⟩
                  · have hfp : (0 : Int) < (ff : Int) := by omega
                    go_wp2_with fail
                    refine HSS.out.mono ?_
                    rintro e w8 ⟨rfl, hA8, hf8⟩
                    have HV8 := Lib.hid (HV7.out.fr hf8); have HA8 := Lib.hid hA8; have HF8 := Lib.hid (HF7.out.trans hf8)
                    have d1 : w8.cell? ⟨w5.heap.size, 1, none⟩ = some (.int .i64 dd) := (hf8.cell hbn7 hbO 1).trans c1
                    have hbn8 : w5.heap.size < w8.heap.size := Nat.lt_of_lt_of_le hbn7 hf8.size
                    clear hA8 hf8 c1
                    go_wp2_with fail
                    refine (c_VFuel HV8.out HA8.out).mono ?_
                    rintro e w9 ⟨rfl, hb9⟩
                    have HF9 := Lib.hid (HF8.out.next hb9); have HA9 := Lib.hid (HA8.out.next hb9)
                    replace d1 := (hb9.cell (p := ⟨w5.heap.size, 1, none⟩) hbn8).trans d1
                    go_wp2_with fail
                    exact ⟨⟨i + 1, ff, by omega, by go_num, by have := HIF.out; omega, HA9.out, HF9.out⟩, by simp [intOf]; omega⟩
                · have hs := c_VStepErr HV7.out HVE.out (j := i) (f := ff) (by omega) (by have := HIF.out; omega) (by have := HIF.out; omega) HA7.out h4
                  have hf0 : (0 : Int) < ((ff + 1 : Nat) : Int) := by omega
                  obtain ⟨f1, hf1⟩ : ∃ f1, ff + 1 = f1 := ⟨_, rfl⟩
                  rw [hf1] at hs hf0
                  obtain ⟨ee, hee⟩ : ∃ ee, te im.code M i = ee := ⟨_, rfl⟩
                  rw [hee] at hs h4
                  have h5 : (ee != 0) = true := by simpa using h4
                  have HSS := Lib.hid hs
                  clear hs h4 hee hf1
                  go_wp2_with fail
                  refine HSS.out.mono ?_
                  rintro e w8 ⟨rfl, hA8, hf8⟩
                  have HV8 := Lib.hid (HV7.out.fr hf8); have HA8 := Lib.hid hA8; have HF8 := Lib.hid (HF7.out.trans hf8)
                  have d1 : w8.cell? ⟨w5.heap.size, 1, none⟩ = some (.int .i64 dd) := (hf8.cell hbn7 hbO 1).trans c1
                  have hbn8 : w5.heap.size < w8.heap.size := Nat.lt_of_lt_of_le hbn7 hf8.size
                  clear hA8 hf8 c1
                  go_wp2_with fail
                  refine (c_VFuel HV8.out HA8.out).mono ?_
                  rintro e w9 ⟨rfl, hb9⟩
                  have HF9 := Lib.hid (HF8.out.next hb9); have HA9 := Lib.hid (HA8.out.next hb9)
                  replace d1 := (hb9.cell (p := ⟨w5.heap.size, 1, none⟩) hbn8).trans d1
                  go_wp2_with fail
                  go_ret
                  exact ⟨rfl, BEL.out _ HF9.out⟩
          · have h34' : (op == 34) = false := by simpa using h34
            by_cases hD : dd = 1
            · subst hD
              by_cases hC0 : cl = 0
              · subst hC0
                obtain rfl : hv = false := by rw [HHT.out]; rw [hdl, HOP.out, decide_eq_false h34]; rfl
                go_upto_region 10 with fail
                refine wp_region_held_drew (S := fun W => Below w6.heap.size w6 W) (by kernel_rfl) ((Below.refl _ _).drew) (fun hH => ?_)
                refine wpAnyH_take (i := 0) (v := ?_) rfl (by kernel_rfl) (by kernel_rfl) (by kernel_rfl) (fun _ _ _ h => h) (Or.inl ⟨by rfl, ?hy⟩) hH ?_
                case hy => (intro w9_ hS9; clear hS9; go_simp; try with_reducible rfl)
                (try simp only [List.getElem_toArray, List.getElem_cons_zero, List.getElem_cons_succ, Act.put, List.setIfInBounds_toArray, List.set_cons_zero, List.set_cons_succ])
                refine wpAnyH_take (i := 2) (v := ?_) rfl (by kernel_rfl) (by kernel_rfl) (by kernel_rfl) (fun _ _ _ h => h) (Or.inl ⟨by rfl, ?hy⟩) hH ?_
                case hy => (intro w9_ hS9; clear hS9; go_simp; try with_reducible rfl)
                (try simp only [List.getElem_toArray, List.getElem_cons_zero, List.getElem_cons_succ, Act.put, List.setIfInBounds_toArray, List.set_cons_zero, List.set_cons_succ])
                refine wpAnyH_take (i := 3) (v := ?_) rfl (by kernel_rfl) (by kernel_rfl) (by kernel_rfl) (fun _ _ _ h => h) (Or.inl ⟨by rfl, ?hy⟩) hH ?_
                case hy => (intro w9_ hS9; have T9 : w9_.cell? ⟨w5.heap.size, 1, none⟩ = some (.int .i64 1) := (hS9.cell (p := ⟨w5.heap.size, 1, none⟩) hbn).trans c1; clear hS9; go_simp; try with_reducible rfl)
                (try simp only [List.getElem_toArray, List.getElem_cons_zero, List.getElem_cons_succ, Act.put, List.setIfInBounds_toArray, List.set_cons_zero, List.set_cons_succ])
                refine wpAnyH_take (i := 4) (v := ?_) rfl (by kernel_rfl) (by kernel_rfl) (by kernel_rfl) (fun _ _ _ h => h) (Or.inl ⟨by rfl, ?hy⟩) hH ?_
                case hy => (intro w9_ hS9; clear hS9; go_simp; try with_reducible rfl)
                (try simp only [List.getElem_toArray, List.getElem_cons_zero, List.getElem_cons_succ, Act.put, List.setIfInBounds_toArray, List.set_cons_zero, List.set_cons_succ])
                refine wpAnyH_ready (rs := [1]) (by kernel_rfl) (by simp) ?_
                refine AllReadyH.cons rfl (fun K hK => ?_) (AllReadyH.nil)
                go_simp
                refine (show Calls Tryd.prog _ _ _ (fun e w' => e = .returned (.bool false) ∧ _) from (by have hs := c_VHalted (HV6.out.next hH) HVE.out (j := i) (by omega) (HA6.out.next hH); rw [HHV.out] at hs; exact hs)).mono ?_
                rintro e w7 ⟨rfl, hb7⟩
                replace hH := hH.next hb7
                clear hb7
                refine hK.out _ _ hH (fun _ => ?_)
                clear hK
                (try simp only [List.getElem_toArray, List.getElem_cons_zero, List.getElem_cons_succ, Act.put, List.setIfInBounds_toArray, List.set_cons_zero, List.set_cons_succ])
                refine wpAnyH_take (i := 5) (v := ?_) rfl (by kernel_rfl) (by kernel_rfl) (by kernel_rfl) (fun _ _ _ h => h) (Or.inl ⟨by rfl, ?hy⟩) hH ?_
                case hy => (intro w9_ hS9; clear hS9; go_simp; try with_reducible rfl)
                (try simp only [List.getElem_toArray, List.getElem_cons_zero, List.getElem_cons_succ, Act.put, List.setIfInBounds_toArray, List.set_cons_zero, List.set_cons_succ])
                refine wpAnyH_take (i := 6) (v := ?_) rfl (by kernel_rfl) (by kernel_rfl) (by kernel_rfl) (fun _ _ _ h => h) (Or.inl ⟨by rfl, ?hy⟩) hH ?_
                case hy => (intro w9_ hS9; clear hS9; go_simp; try with_reducible rfl)
                (try simp only [List.getElem_toArray, List.getElem_cons_zero, List.getElem_cons_succ, Act.put, List.setIfInBounds_toArray, List.set_cons_zero, List.set_cons_succ])
                refine wpAnyH_take (i := 7) (v := ?_) rfl (by kernel_rfl) (by kernel_rfl) (by kernel_rfl) (fun _ _ _ h => h) (Or.inl ⟨by rfl, ?hy⟩) hH ?_
                case hy => (intro w9_ hS9; have T9 : w9_.cell? ⟨w5.heap.size, 20, none⟩ = some (.slice Ac 0 cc) := (hS9.cell (p := ⟨w5.heap.size, 20, none⟩) hbn).trans c20; clear hS9; go_simp; try with_reducible rfl)
                (try simp only [List.getElem_toArray, List.getElem_cons_zero, List.getElem_cons_succ, Act.put, List.setIfInBounds_toArray, List.set_cons_zero, List.set_cons_succ])
                refine wpAnyH_take (i := 8) (v := ?_) rfl (by kernel_rfl) (by kernel_rfl) (by kernel_rfl) (fun _ _ _ h => h) (Or.inl ⟨by rfl, ?hy⟩) hH ?_
                case hy => (intro w9_ hS9; clear hS9; go_simp; try with_reducible rfl)
                (try simp only [List.getElem_toArray, List.getElem_cons_zero, List.getElem_cons_succ, Act.put, List.setIfInBounds_toArray, List.set_cons_zero, List.set_cons_succ])
                refine wpAnyH_take (i := 9) (v := ?_) rfl (by kernel_rfl) (by kernel_rfl) (by kernel_rfl) (fun _ _ _ h => h) (Or.inl ⟨by rfl, ?hy⟩) hH ?_
                case hy => (intro w9_ hS9; clear hS9; go_simp; try with_reducible rfl)
                (try simp only [List.getElem_toArray, List.getElem_cons_zero, List.getElem_cons_succ, Act.put, List.setIfInBounds_toArray, List.set_cons_zero, List.set_cons_succ])
                refine wpAnyH_take (i := 10) (v := ?_) rfl (by kernel_rfl) (by kernel_rfl) (by kernel_rfl) (fun _ _ _ h => h) (Or.inl ⟨by rfl, ?hy⟩) hH ?_
                case hy => (intro w9_ hS9; clear hS9; go_simp; try with_reducible rfl)
                (try simp only [List.getElem_toArray, List.getElem_cons_zero, List.getElem_cons_succ, Act.put, List.setIfInBounds_toArray, List.set_cons_zero, List.set_cons_succ])
                refine wpAnyH_take (i := 11) (v := ?_) rfl (by kernel_rfl) (by kernel_rfl) (by kernel_rfl) (fun _ _ _ h => h) (Or.inl ⟨by rfl, ?hy⟩) hH ?_
                case hy => (intro w9_ hS9; clear hS9; go_simp; try with_reducible rfl)
                (try simp only [List.getElem_toArray, List.getElem_cons_zero, List.getElem_cons_succ, Act.put, List.setIfInBounds_toArray, List.set_cons_zero, List.set_cons_succ])
                refine wpAnyH_take (i := 12) (v := ?_) rfl (by kernel_rfl) (by kernel_rfl) (by kernel_rfl) (fun _ _ _ h => h) (Or.inl ⟨by rfl, ?hy⟩) hH ?_
                case hy => (intro w9_ hS9; clear hS9; go_simp; try with_reducible rfl)
                (try simp only [List.getElem_toArray, List.getElem_cons_zero, List.getElem_cons_succ, Act.put, List.setIfInBounds_toArray, List.set_cons_zero, List.set_cons_succ])
                refine wpAnyH_take (i := 13) (v := ?_) rfl (by kernel_rfl) (by kernel_rfl) (by kernel_rfl) (fun _ _ _ h => h) (Or.inl ⟨by rfl, ?hy⟩) hH ?_
                case hy => (intro w9_ hS9; clear hS9; go_simp; try with_reducible rfl)
                (try simp only [List.getElem_toArray, List.getElem_cons_zero, List.getElem_cons_succ, Act.put, List.setIfInBounds_toArray, List.set_cons_zero, List.set_cons_succ])
                refine wpAnyH_take (i := 14) (v := ?_) rfl (by kernel_rfl) (by kernel_rfl) (by kernel_rfl) (fun _ _ _ h => h) (Or.inl ⟨by rfl, ?hy⟩) hH ?_
                case hy => (intro w9_ hS9; clear hS9; go_simp; try with_reducible rfl)
                (try simp only [List.getElem_toArray, List.getElem_cons_zero, List.getElem_cons_succ, Act.put, List.setIfInBounds_toArray, List.set_cons_zero, List.set_cons_succ])
                refine wpAnyH_done (by kernel_rfl) ?_ _
                have HV7 := Lib.hid (HV6.out.next hH); have HA7 := Lib.hid (HA6.out.next hH); have HF7 := Lib.hid (HF6.out.next hH)
                replace c1 : w7.cell? ⟨w5.heap.size, 1, none⟩ = some (.int .i64 1) := (hH.cell (p := ⟨w5.heap.size, 1, none⟩) hbn).trans c1
                have hbn7 : w5.heap.size < w7.heap.size := Nat.lt_of_lt_of_le hbn hH.size
                clear hH T_1 z_1 F_1 c0 c20
                have hz0 : f = 0 ∨ ∃ ff, f = ff + 1 := by rcases f with _ | ff; exact .inl rfl; exact .inr ⟨ff, rfl⟩
                rcases hz0 with rfl | ⟨ff, rfl⟩
                · go_wp2_with fail
                  refine (c_VStep0 HV7.out HA7.out).mono ?_
                  rintro e w8 ⟨rfl, hb8⟩
                  have HV8 := Lib.hid (HV7.out.next hb8); have HA8 := Lib.hid (HA7.out.next hb8); have HF8 := Lib.hid (HF7.out.next hb8)
                  have d1 : w8.cell? ⟨w5.heap.size, 1, none⟩ = some (.int .i64 1) := (hb8.cell (p := ⟨w5.heap.size, 1, none⟩) hbn7).trans c1
                  have hbn8 : w5.heap.size < w8.heap.size := Nat.lt_of_lt_of_le hbn7 hb8.size
                  clear hb8 c1
                  go_wp2_with fail
                  refine (show Calls Tryd.prog _ _ _ (fun e w' => e = .returned (.int .i64 0) ∧ _) from c_VFuel HV8.out HA8.out).mono ?_
                  rintro e w9 ⟨rfl, hb9⟩
                  have HF9 := Lib.hid (HF8.out.next hb9)
                  replace d1 := (hb9.cell (p := ⟨w5.heap.size, 1, none⟩) hbn8).trans d1
                  go_wp2_with fail
                  go_ret
                  exact ⟨rfl, BEL.out _ HF9.out⟩
                · by_cases h4 : te im.code M i = 0
                  · have H4 := Lib.hid h4; clear h4
                    have hfz : ff = 0 ∨ 0 < ff := by omega
                    have hs := c_VStepOk HV7.out HVE.out (j := i) (f := ff) (by omega) (by have := HIF.out; omega) (by have := HIF.out; omega) HA7.out H4.out
                    have HSS := Lib.hid hs
                    clear hs
                    rcases hfz with rfl | hfz
                    · go_wp2_with fail
                      refine HSS.out.mono ?_
                      rintro e w8 ⟨rfl, hA8, hf8⟩
                      have HV8 := Lib.hid (HV7.out.fr hf8); have HA8 := Lib.hid hA8; have HF8 := Lib.hid (HF7.out.trans hf8)
                      have d1 : w8.cell? ⟨w5.heap.size, 1, none⟩ = some (.int .i64 1) := (hf8.cell hbn7 hbO 1).trans c1
                      have hbn8 : w5.heap.size < w8.heap.size := Nat.lt_of_lt_of_le hbn7 hf8.size
                      clear hA8 hf8 c1
                      go_wp2_with fail
                      refine (c_VFuel HV8.out HA8.out).mono ?_
                      rintro e w9 ⟨rfl, hb9⟩
                      have HF9 := Lib.hid (HF8.out.next hb9); have HA9 := Lib.hid (HA8.out.next hb9)
                      replace d1 := (hb9.cell (p := ⟨w5.heap.size, 1, none⟩) hbn8).trans d1
                      go_wp2_with fail
                      exact ⟨⟨i + 1, 0, by omega, by go_num, by have := HIF.out; omega, HA9.out, HF9.out⟩, by simp [intOf]; omega⟩
                    · have hfp : (0 : Int) < (ff : Int) := by omega
                      go_wp2_with fail
                      refine HSS.out.mono ?_
                      rintro e w8 ⟨rfl, hA8, hf8⟩
                      have HV8 := Lib.hid (HV7.out.fr hf8); have HA8 := Lib.hid hA8; have HF8 := Lib.hid (HF7.out.trans hf8)
                      have d1 : w8.cell? ⟨w5.heap.size, 1, none⟩ = some (.int .i64 1) := (hf8.cell hbn7 hbO 1).trans c1
                      have hbn8 : w5.heap.size < w8.heap.size := Nat.lt_of_lt_of_le hbn7 hf8.size
                      clear hA8 hf8 c1
                      go_wp2_with fail
                      refine (c_VFuel HV8.out HA8.out).mono ?_
                      rintro e w9 ⟨rfl, hb9⟩
                      have HF9 := Lib.hid (HF8.out.next hb9); have HA9 := Lib.hid (HA8.out.next hb9)
                      replace d1 := (hb9.cell (p := ⟨w5.heap.size, 1, none⟩) hbn8).trans d1
                      go_wp2_with fail
                      exact ⟨⟨i + 1, ff, by omega, by go_num, by have := HIF.out; omega, HA9.out, HF9.out⟩, by simp [intOf]; omega⟩
                  · have hs := c_VStepErr HV7.out HVE.out (j := i) (f := ff) (by omega) (by have := HIF.out; omega) (by have := HIF.out; omega) HA7.out h4
                    have hf0 : (0 : Int) < ((ff + 1 : Nat) : Int) := by omega
                    obtain ⟨f1, hf1⟩ : ∃ f1, ff + 1 = f1 := ⟨_, rfl⟩
                    rw [hf1] at hs hf0
                    obtain ⟨ee, hee⟩ : ∃ ee, te im.code M i = ee := ⟨_, rfl⟩
                    rw [hee] at hs h4
                    have h5 : (ee != 0) = true := by simpa using h4
                    have HSS := Lib.hid hs
                    clear hs h4 hee hf1
                    go_wp2_with fail
                    refine HSS.out.mono ?_
                    rintro e w8 ⟨rfl, hA8, hf8⟩
                    have HV8 := Lib.hid (HV7.out.fr hf8); have HA8 := Lib.hid hA8; have HF8 := Lib.hid (HF7.out.trans hf8)
                    have d1 : w8.cell? ⟨w5.heap.size, 1, none⟩ = some (.int .i64 1) := (hf8.cell hbn7 hbO 1).trans c1
                    have hbn8 : w5.heap.size < w8.heap.size := Nat.lt_of_lt_of_le hbn7 hf8.size
                    clear hA8 hf8 c1
                    go_wp2_with fail
                    refine (c_VFuel HV8.out HA8.out).mono ?_
                    rintro e w9 ⟨rfl, hb9⟩
                    have HF9 := Lib.hid (HF8.out.next hb9); have HA9 := Lib.hid (HA8.out.next hb9)
                    replace d1 := (hb9.cell (p := ⟨w5.heap.size, 1, none⟩) hbn8).trans d1
                    go_wp2_with fail
                    go_ret
                    exact ⟨rfl, BEL.out _ HF9.out⟩
              · have hC1 : ((cl : Int) == 0) = false := by simp; omega
                have hC2 : ¬ cl = 0 := hC0
                obtain rfl : hv = false := by rw [HHT.out]; rw [decide_eq_false hC2]; rfl
                go_upto_region 10 with fail
                refine wp_region_held_drew (S := fun W => Below w6.heap.size w6 W) (by kernel_rfl) ((Below.refl _ _).drew) (fun hH => ?_)
                refine wpAnyH_take (i := 0) (v := ?_) rfl (by kernel_rfl) (by kernel_rfl) (by kernel_rfl) (fun _ _ _ h => h) (Or.inl ⟨by rfl, ?hy⟩) hH ?_
                case hy => (intro w9_ hS9; clear hS9; go_simp; try with_reducible rfl)
                (try simp only [List.getElem_toArray, List.getElem_cons_zero, List.getElem_cons_succ, Act.put, List.setIfInBounds_toArray, List.set_cons_zero, List.set_cons_succ])
                refine wpAnyH_take (i := 2) (v := ?_) rfl (by kernel_rfl) (by kernel_rfl) (by kernel_rfl) (fun _ _ _ h => h) (Or.inl ⟨by rfl, ?hy⟩) hH ?_
                case hy => (intro w9_ hS9; clear hS9; go_simp; try with_reducible rfl)
                (try simp only [List.getElem_toArray, List.getElem_cons_zero, List.getElem_cons_succ, Act.put, List.setIfInBounds_toArray, List.set_cons_zero, List.set_cons_succ])
                refine wpAnyH_take (i := 3) (v := ?_) rfl (by kernel_rfl) (by kernel_rfl) (by kernel_rfl) (fun _ _ _ h => h) (Or.inl ⟨by rfl, ?hy⟩) hH ?_
                case hy => (intro w9_ hS9; have T9 : w9_.cell? ⟨w5.heap.size, 1, none⟩ = some (.int .i64 1) := (hS9.cell (p := ⟨w5.heap.size, 1, none⟩) hbn).trans c1; clear hS9; go_simp; try with_reducible rfl)
                (try simp only [List.getElem_toArray, List.getElem_cons_zero, List.getElem_cons_succ, Act.put, List.setIfInBounds_toArray, List.set_cons_zero, List.set_cons_succ])
                refine wpAnyH_take (i := 4) (v := ?_) rfl (by kernel_rfl) (by kernel_rfl) (by kernel_rfl) (fun _ _ _ h => h) (Or.inl ⟨by rfl, ?hy⟩) hH ?_
                case hy => (intro w9_ hS9; clear hS9; go_simp; try with_reducible rfl)
                (try simp only [List.getElem_toArray, List.getElem_cons_zero, List.getElem_cons_succ, Act.put, List.setIfInBounds_toArray, List.set_cons_zero, List.set_cons_succ])
                refine wpAnyH_ready (rs := [1]) (by kernel_rfl) (by simp) ?_
                refine AllReadyH.cons rfl (fun K hK => ?_) (AllReadyH.nil)
                go_simp
                refine (show Calls Tryd.prog _ _ _ (fun e w' => e = .returned (.bool false) ∧ _) from (by have hs := c_VHalted (HV6.out.next hH) HVE.out (j := i) (by omega) (HA6.out.next hH); rw [HHV.out] at hs; exact hs)).mono ?_
                rintro e w7 ⟨rfl, hb7⟩
                replace hH := hH.next hb7
                clear hb7
                refine hK.out _ _ hH (fun _ => ?_)
                clear hK
                (try simp only [List.getElem_toArray, List.getElem_cons_zero, List.getElem_cons_succ, Act.put, List.setIfInBounds_toArray, List.set_cons_zero, List.set_cons_succ])
                refine wpAnyH_take (i := 5) (v := ?_) rfl (by kernel_rfl) (by kernel_rfl) (by kernel_rfl) (fun _ _ _ h => h) (Or.inl ⟨by rfl, ?hy⟩) hH ?_
                case hy => (intro w9_ hS9; clear hS9; go_simp; try with_reducible rfl)
                (try simp only [List.getElem_toArray, List.getElem_cons_zero, List.getElem_cons_succ, Act.put, List.setIfInBounds_toArray, List.set_cons_zero, List.set_cons_succ])
                refine wpAnyH_take (i := 6) (v := ?_) rfl (by kernel_rfl) (by kernel_rfl) (by kernel_rfl) (fun _ _ _ h => h) (Or.inl ⟨by rfl, ?hy⟩) hH ?_
                case hy => (intro w9_ hS9; clear hS9; go_simp; try with_reducible rfl)
                (try simp only [List.getElem_toArray, List.getElem_cons_zero, List.getElem_cons_succ, Act.put, List.setIfInBounds_toArray, List.set_cons_zero, List.set_cons_succ])
                refine wpAnyH_take (i := 7) (v := ?_) rfl (by kernel_rfl) (by kernel_rfl) (by kernel_rfl) (fun _ _ _ h => h) (Or.inl ⟨by rfl, ?hy⟩) hH ?_
                case hy => (intro w9_ hS9; have T9 : w9_.cell? ⟨w5.heap.size, 20, none⟩ = some (.slice Ac cl cc) := (hS9.cell (p := ⟨w5.heap.size, 20, none⟩) hbn).trans c20; clear hS9; go_simp; try with_reducible rfl)
                (try simp only [List.getElem_toArray, List.getElem_cons_zero, List.getElem_cons_succ, Act.put, List.setIfInBounds_toArray, List.set_cons_zero, List.set_cons_succ])
                refine wpAnyH_take (i := 8) (v := ?_) rfl (by kernel_rfl) (by kernel_rfl) (by kernel_rfl) (fun _ _ _ h => h) (Or.inl ⟨by rfl, ?hy⟩) hH ?_
                case hy => (intro w9_ hS9; clear hS9; go_simp; try with_reducible rfl)
                (try simp only [List.getElem_toArray, List.getElem_cons_zero, List.getElem_cons_succ, Act.put, List.setIfInBounds_toArray, List.set_cons_zero, List.set_cons_succ])
                refine wpAnyH_take (i := 9) (v := ?_) rfl (by kernel_rfl) (by kernel_rfl) (by kernel_rfl) (fun _ _ _ h => h) (Or.inl ⟨by rfl, ?hy⟩) hH ?_
                case hy => (intro w9_ hS9; clear hS9; go_simp; try with_reducible rfl)
                (try simp only [List.getElem_toArray, List.getElem_cons_zero, List.getElem_cons_succ, Act.put, List.setIfInBounds_toArray, List.set_cons_zero, List.set_cons_succ])
                refine wpAnyH_take (i := 10) (v := ?_) rfl (by kernel_rfl) (by kernel_rfl) (by kernel_rfl) (fun _ _ _ h => h) (Or.inl ⟨by rfl, ?hy⟩) hH ?_
                case hy => (intro w9_ hS9; clear hS9; go_simp; try with_reducible rfl)
                (try simp only [List.getElem_toArray, List.getElem_cons_zero, List.getElem_cons_succ, Act.put, List.setIfInBounds_toArray, List.set_cons_zero, List.set_cons_succ])
                refine wpAnyH_take (i := 11) (v := ?_) rfl (by kernel_rfl) (by kernel_rfl) (by kernel_rfl) (fun _ _ _ h => h) (Or.inl ⟨by rfl, ?hy⟩) hH ?_
                case hy => (intro w9_ hS9; clear hS9; go_simp; try with_reducible rfl)
                (try simp only [List.getElem_toArray, List.getElem_cons_zero, List.getElem_cons_succ, Act.put, List.setIfInBounds_toArray, List.set_cons_zero, List.set_cons_succ])
                refine wpAnyH_take (i := 12) (v := undef) rfl (by kernel_rfl) (by kernel_rfl) (by kernel_rfl) (fun _ _ _ h => h) (Or.inr ⟨by rfl, rfl⟩) hH ?_
                (try simp only [List.getElem_toArray, List.getElem_cons_zero, List.getElem_cons_succ, Act.put, List.setIfInBounds_toArray, List.set_cons_zero, List.set_cons_succ])
                refine wpAnyH_take (i := 13) (v := ?_) rfl (by kernel_rfl) (by kernel_rfl) (by kernel_rfl) (fun _ _ _ h => h) (Or.inl ⟨by rfl, ?hy⟩) hH ?_
                case hy => (intro w9_ hS9; clear hS9; go_simp; try with_reducible rfl)
                (try simp only [List.getElem_toArray, List.getElem_cons_zero, List.getElem_cons_succ, Act.put, List.setIfInBounds_toArray, List.set_cons_zero, List.set_cons_succ])
                refine wpAnyH_take (i := 14) (v := ?_) rfl (by kernel_rfl) (by kernel_rfl) (by kernel_rfl) (fun _ _ _ h => h) (Or.inl ⟨by rfl, ?hy⟩) hH ?_
                case hy => (intro w9_ hS9; clear hS9; go_simp; try with_reducible rfl)
                (try simp only [List.getElem_toArray, List.getElem_cons_zero, List.getElem_cons_succ, Act.put, List.setIfInBounds_toArray, List.set_cons_zero, List.set_cons_succ])
                refine wpAnyH_done (by kernel_rfl) ?_ _
                have HV7 := Lib.hid (HV6.out.next hH); have HA7 := Lib.hid (HA6.out.next hH); have HF7 := Lib.hid (HF6.out.next hH)
                replace c1 : w7.cell? ⟨w5.heap.size, 1, none⟩ = some (.int .i64 1) := (hH.cell (p := ⟨w5.heap.size, 1, none⟩) hbn).trans c1
                have hbn7 : w5.heap.size < w7.heap.size := Nat.lt_of_lt_of_le hbn hH.size
                clear hH T_1 z_1 F_1 c0 c20
                have hz0 : f = 0 ∨ ∃ ff, f = ff + 1 := by rcases f with _ | ff; exact .inl rfl; exact .inr ⟨ff, rfl⟩
                rcases hz0 with rfl | ⟨ff, rfl⟩
                · go_wp2_with fail
                  refine (c_VStep0 HV7.out HA7.out).mono ?_
                  rintro e w8 ⟨rfl, hb8⟩
                  have HV8 := Lib.hid (HV7.out.next hb8); have HA8 := Lib.hid (HA7.out.next hb8); have HF8 := Lib.hid (HF7.out.next hb8)
                  have d1 : w8.cell? ⟨w5.heap.size, 1, none⟩ = some (.int .i64 1) := (hb8.cell (p := ⟨w5.heap.size, 1, none⟩) hbn7).trans c1
                  have hbn8 : w5.heap.size < w8.heap.size := Nat.lt_of_lt_of_le hbn7 hb8.size
                  clear hb8 c1
                  go_wp2_with fail
                  refine (show Calls Tryd.prog _ _ _ (fun e w' => e = .returned (.int .i64 0) ∧ _) from c_VFuel HV8.out HA8.out).mono ?_
                  rintro e w9 ⟨rfl, hb9⟩
                  have HF9 := Lib.hid (HF8.out.next hb9)
                  replace d1 := (hb9.cell (p := ⟨w5.heap.size, 1, none⟩) hbn8).trans d1
                  go_wp2_with fail
                  go_ret
                  exact ⟨rfl, BEL.out _ HF9.out⟩
                · by_cases h4 : te im.code M i = 0
                  · have H4 := Lib.hid h4; clear h4
                    have hfz : ff = 0 ∨ 0 < ff := by omega
                    have hs := c_VStepOk HV7.out HVE.out (j := i) (f := ff) (by omega) (by have := HIF.out; omega) (by have := HIF.out; omega) HA7.out H4.out
                    have HSS := Lib.hid hs
                    clear hs
                    rcases hfz with rfl | hfz
                    · go_wp2_with fail
                      refine HSS.out.mono ?_
                      rintro e w8 ⟨rfl, hA8, hf8⟩
                      have HV8 := Lib.hid (HV7.out.fr hf8); have HA8 := Lib.hid hA8; have HF8 := Lib.hid (HF7.out.trans hf8)
                      have d1 : w8.cell? ⟨w5.heap.size, 1, none⟩ = some (.int .i64 1) := (hf8.cell hbn7 hbO 1).trans c1
                      have hbn8 : w5.heap.size < w8.heap.size := Nat.lt_of_lt_of_le hbn7 hf8.size
                      clear hA8 hf8 c1
                      go_wp2_with fail
                      refine (c_VFuel HV8.out HA8.out).mono ?_
                      rintro e w9 ⟨rfl, hb9⟩
                      have HF9 := Lib.hid (HF8.out.next hb9); have HA9 := Lib.hid (HA8.out.next hb9)
                      replace d1 := (hb9.cell (p := ⟨w5.heap.size, 1, none⟩) hbn8).trans d1
                      go_wp2_with fail
                      exact ⟨⟨i + 1, 0, by omega, by go_num, by have := HIF.out; omega, HA9.out, HF9.out⟩, by simp [intOf]; omega⟩
                    · have hfp : (0 : Int) < (ff : Int) := by omega
                      go_wp2_with fail
                      refine HSS.out.mono ?_
                      rintro e w8 ⟨rfl, hA8, hf8⟩
                      have HV8 := Lib.hid (HV7.out.fr hf8); have HA8 := Lib.hid hA8; have HF8 := Lib.hid (HF7.out.trans hf8)
                      have d1 : w8.cell? ⟨w5.heap.size, 1, none⟩ = some (.int .i64 1) := (hf8.cell hbn7 hbO 1).trans c1
                      have hbn8 : w5.heap.size < w8.heap.size := Nat.lt_of_lt_of_le hbn7 hf8.size
                      clear hA8 hf8 c1
                      go_wp2_with fail
                      refine (c_VFuel HV8.out HA8.out).mono ?_
                      rintro e w9 ⟨rfl, hb9⟩
                      have HF9 := Lib.hid (HF8.out.next hb9); have HA9 := Lib.hid (HA8.out.next hb9)
                      replace d1 := (hb9.cell (p := ⟨w5.heap.size, 1, none⟩) hbn8).trans d1
                      go_wp2_with fail
                      exact ⟨⟨i + 1, ff, by omega, by go_num, by have := HIF.out; omega, HA9.out, HF9.out⟩, by simp [intOf]; omega⟩
                  · have hs := c_VStepErr HV7.out HVE.out (j := i) (f := ff) (by omega) (by have := HIF.out; omega) (by have := HIF.out; omega) HA7.out h4
                    have hf0 : (0 : Int) < ((ff + 1 : Nat) : Int) := by omega
                    obtain ⟨f1, hf1⟩ : ∃ f1, ff + 1 = f1 := ⟨_, rfl⟩
                    rw [hf1] at hs hf0
                    obtain ⟨ee, hee⟩ : ∃ ee, te im.code M i = ee := ⟨_, rfl⟩
                    rw [hee] at hs h4
                    have h5 : (ee != 0) = true := by simpa using h4
                    have HSS := Lib.hid hs
                    clear hs h4 hee hf1
                    go_wp2_with fail
                    refine HSS.out.mono ?_
                    rintro e w8 ⟨rfl, hA8, hf8⟩
                    have HV8 := Lib.hid (HV7.out.fr hf8); have HA8 := Lib.hid hA8; have HF8 := Lib.hid (HF7.out.trans hf8)
                    have d1 : w8.cell? ⟨w5.heap.size, 1, none⟩ = some (.int .i64 1) := (hf8.cell hbn7 hbO 1).trans c1
                    have hbn8 : w5.heap.size < w8.heap.size := Nat.lt_of_lt_of_le hbn7 hf8.size
                    clear hA8 hf8 c1
                    go_wp2_with fail
                    refine (c_VFuel HV8.out HA8.out).mono ?_
                    rintro e w9 ⟨rfl, hb9⟩
                    have HF9 := Lib.hid (HF8.out.next hb9); have HA9 := Lib.hid (HA8.out.next hb9)
                    replace d1 := (hb9.cell (p := ⟨w5.heap.size, 1, none⟩) hbn8).trans d1
                    go_wp2_with fail
                    go_ret
                    exact ⟨rfl, BEL.out _ HF9.out⟩
            · have hD1 : (dd == 1) = false := by simpa using hD
              obtain rfl : hv = false := by rw [HHT.out]; rw [decide_eq_false hD]; rfl
              go_upto_region 10 with fail
              refine wp_region_held_drew (S := fun W => Below w6.heap.size w6 W) (by kernel_rfl) ((Below.refl _ _).drew) (fun hH => ?_)
              refine wpAnyH_take (i := 0) (v := ?_) rfl (by kernel_rfl) (by kernel_rfl) (by kernel_rfl) (fun _ _ _ h => h) (Or.inl ⟨by rfl, ?hy⟩) hH ?_
              case hy => (intro w9_ hS9; clear hS9; go_simp; try with_reducible rfl)
              (try simp only [List.getElem_toArray, List.getElem_cons_zero, List.getElem_cons_succ, Act.put, List.setIfInBounds_toArray, List.set_cons_zero, List.set_cons_succ])
              refine wpAnyH_take (i := 2) (v := ?_) rfl (by kernel_rfl) (by kernel_rfl) (by kernel_rfl) (fun _ _ _ h => h) (Or.inl ⟨by rfl, ?hy⟩) hH ?_
              case hy => (intro w9_ hS9; clear hS9; go_simp; try with_reducible rfl)
              (try simp only [List.getElem_toArray, List.getElem_cons_zero, List.getElem_cons_succ, Act.put, List.setIfInBounds_toArray, List.set_cons_zero, List.set_cons_succ])
              refine wpAnyH_take (i := 3) (v := ?_) rfl (by kernel_rfl) (by kernel_rfl) (by kernel_rfl) (fun _ _ _ h => h) (Or.inl ⟨by rfl, ?hy⟩) hH ?_
              case hy => (intro w9_ hS9; have T9 : w9_.cell? ⟨w5.heap.size, 1, none⟩ = some (.int .i64 dd) := (hS9.cell (p := ⟨w5.heap.size, 1, none⟩) hbn).trans c1; clear hS9; go_simp; try with_reducible rfl)
              (try simp only [List.getElem_toArray, List.getElem_cons_zero, List.getElem_cons_succ, Act.put, List.setIfInBounds_toArray, List.set_cons_zero, List.set_cons_succ])
              refine wpAnyH_take (i := 4) (v := ?_) rfl (by kernel_rfl) (by kernel_rfl) (by kernel_rfl) (fun _ _ _ h => h) (Or.inl ⟨by rfl, ?hy⟩) hH ?_
              case hy => (intro w9_ hS9; clear hS9; go_simp; try with_reducible rfl)
              (try simp only [List.getElem_toArray, List.getElem_cons_zero, List.getElem_cons_succ, Act.put, List.setIfInBounds_toArray, List.set_cons_zero, List.set_cons_succ])
              refine wpAnyH_ready (rs := [1]) (by kernel_rfl) (by simp) ?_
              refine AllReadyH.cons rfl (fun K hK => ?_) (AllReadyH.nil)
              go_simp
              refine (show Calls Tryd.prog _ _ _ (fun e w' => e = .returned (.bool false) ∧ _) from (by have hs := c_VHalted (HV6.out.next hH) HVE.out (j := i) (by omega) (HA6.out.next hH); rw [HHV.out] at hs; exact hs)).mono ?_
              rintro e w7 ⟨rfl, hb7⟩
              replace hH := hH.next hb7
              clear hb7
              refine hK.out _ _ hH (fun _ => ?_)
              clear hK
              (try simp only [List.getElem_toArray, List.getElem_cons_zero, List.getElem_cons_succ, Act.put, List.setIfInBounds_toArray, List.set_cons_zero, List.set_cons_succ])
              refine wpAnyH_take (i := 5) (v := ?_) rfl (by kernel_rfl) (by kernel_rfl) (by kernel_rfl) (fun _ _ _ h => h) (Or.inl ⟨by rfl, ?hy⟩) hH ?_
              case hy => (intro w9_ hS9; clear hS9; go_simp; try with_reducible rfl)
              (try simp only [List.getElem_toArray, List.getElem_cons_zero, List.getElem_cons_succ, Act.put, List.setIfInBounds_toArray, List.set_cons_zero, List.set_cons_succ])
              refine wpAnyH_take (i := 6) (v := undef) rfl (by kernel_rfl) (by kernel_rfl) (by kernel_rfl) (fun _ _ _ h => h) (Or.inr ⟨by rfl, rfl⟩) hH ?_
              (try simp only [List.getElem_toArray, List.getElem_cons_zero, List.getElem_cons_succ, Act.put, List.setIfInBounds_toArray, List.set_cons_zero, List.set_cons_succ])
              refine wpAnyH_take (i := 7) (v := undef) rfl (by kernel_rfl) (by kernel_rfl) (by kernel_rfl) (fun _ _ _ h => h) (Or.inr ⟨by rfl, rfl⟩) hH ?_
              (try simp only [List.getElem_toArray, List.getElem_cons_zero, List.getElem_cons_succ, Act.put, List.setIfInBounds_toArray, List.set_cons_zero, List.set_cons_succ])
              refine wpAnyH_take (i := 8) (v := undef) rfl (by kernel_rfl) (by kernel_rfl) (by kernel_rfl) (fun _ _ _ h => h) (Or.inr ⟨by rfl, rfl⟩) hH ?_
              (try simp only [List.getElem_toArray, List.getElem_cons_zero, List.getElem_cons_succ, Act.put, List.setIfInBounds_toArray, List.set_cons_zero, List.set_cons_succ])
              refine wpAnyH_take (i := 9) (v := undef) rfl (by kernel_rfl) (by kernel_rfl) (by kernel_rfl) (fun _ _ _ h => h) (Or.inr ⟨by rfl, rfl⟩) hH ?_
              (try simp only [List.getElem_toArray, List.getElem_cons_zero, List.getElem_cons_succ, Act.put, List.setIfInBounds_toArray, List.set_cons_zero, List.set_cons_succ])
              refine wpAnyH_take (i := 10) (v := ?_) rfl (by kernel_rfl) (by kernel_rfl) (by kernel_rfl) (fun _ _ _ h => h) (Or.inl ⟨by rfl, ?hy⟩) hH ?_
              case hy => (intro w9_ hS9; clear hS9; go_simp; try with_reducible rfl)
              (try simp only [List.getElem_toArray, List.getElem_cons_zero, List.getElem_cons_succ, Act.put, List.setIfInBounds_toArray, List.set_cons_zero, List.set_cons_succ])
              refine wpAnyH_take (i := 11) (v := ?_) rfl (by kernel_rfl) (by kernel_rfl) (by kernel_rfl) (fun _ _ _ h => h) (Or.inl ⟨by rfl, ?hy⟩) hH ?_
              case hy => (intro w9_ hS9; clear hS9; go_simp; try with_reducible rfl)
              (try simp only [List.getElem_toArray, List.getElem_cons_zero, List.getElem_cons_succ, Act.put, List.setIfInBounds_toArray, List.set_cons_zero, List.set_cons_succ])
              refine wpAnyH_take (i := 12) (v := undef) rfl (by kernel_rfl) (by kernel_rfl) (by kernel_rfl) (fun _ _ _ h => h) (Or.inr ⟨by rfl, rfl⟩) hH ?_
              (try simp only [List.getElem_toArray, List.getElem_cons_zero, List.getElem_cons_succ, Act.put, List.setIfInBounds_toArray, List.set_cons_zero, List.set_cons_succ])
              refine wpAnyH_take (i := 13) (v := ?_) rfl (by kernel_rfl) (by kernel_rfl) (by kernel_rfl) (fun _ _ _ h => h) (Or.inl ⟨by rfl, ?hy⟩) hH ?_
              case hy => (intro w9_ hS9; clear hS9; go_simp; try with_reducible rfl)
              (try simp only [List.getElem_toArray, List.getElem_cons_zero, List.getElem_cons_succ, Act.put, List.setIfInBounds_toArray, List.set_cons_zero, List.set_cons_succ])
              refine wpAnyH_take (i := 14) (v := ?_) rfl (by kernel_rfl) (by kernel_rfl) (by kernel_rfl) (fun _ _ _ h => h) (Or.inl ⟨by rfl, ?hy⟩) hH ?_
              case hy => (intro w9_ hS9; clear hS9; go_simp; try with_reducible rfl)
              (try simp only [List.getElem_toArray, List.getElem_cons_zero, List.getElem_cons_succ, Act.put, List.setIfInBounds_toArray, List.set_cons_zero, List.set_cons_succ])
              refine wpAnyH_done (by kernel_rfl) ?_ _
              have HV7 := Lib.hid (HV6.out.next hH); have HA7 := Lib.hid (HA6.out.next hH); have HF7 := Lib.hid (HF6.out.next hH)
              replace c1 : w7.cell? ⟨w5.heap.size, 1, none⟩ = some (.int .i64 dd) := (hH.cell (p := ⟨w5.heap.size, 1, none⟩) hbn).trans c1
              have hbn7 : w5.heap.size < w7.heap.size := Nat.lt_of_lt_of_le hbn hH.size
              clear hH T_1 z_1 F_1 c0 c20
              have hz0 : f = 0 ∨ ∃ ff, f = ff + 1 := by rcases f with _ | ff; exact .inl rfl; exact .inr ⟨ff, rfl⟩
              rcases hz0 with rfl | ⟨ff, rfl⟩
              · go_wp2_with fail
                refine (c_VStep0 HV7.out HA7.out).mono ?_
                rintro e w8 ⟨rfl, hb8⟩
                have HV8 := Lib.hid (HV7.out.next hb8); have HA8 := Lib.hid (HA7.out.next hb8); have HF8 := Lib.hid (HF7.out.next hb8)
                have d1 : w8.cell? ⟨w5.heap.size, 1, none⟩ = some (.int .i64 dd) := (hb8.cell (p := ⟨w5.heap.size, 1, none⟩) hbn7).trans c1
                have hbn8 : w5.heap.size < w8.heap.size := Nat.lt_of_lt_of_le hbn7 hb8.size
                clear hb8 c1
                go_wp2_with fail
                refine (show Calls Tryd.prog _ _ _ (fun e w' => e = .returned (.int .i64 0) ∧ _) from c_VFuel HV8.out HA8.out).mono ?_
                rintro e w9 ⟨rfl, hb9⟩
                have HF9 := Lib.hid (HF8.out.next hb9)
                replace d1 := (hb9.cell (p := ⟨w5.heap.size, 1, none⟩) hbn8).trans d1
                go_wp2_with fail
                go_ret
                exact ⟨rfl, BEL.out _ HF9.out⟩
              · by_cases h4 : te im.code M i = 0
                · have H4 := Lib.hid h4; clear h4
                  have hfz : ff = 0 ∨ 0 < ff := by omega
                  have hs := c_VStepOk HV7.out HVE.out (j := i) (f := ff) (by omega) (by have := HIF.out; omega) (by have := HIF.out; omega) HA7.out H4.out
                  have HSS := Lib.hid hs
                  clear hs
                  rcases hfz with rfl | hfz
                  · go_wp2_with fail
                    refine HSS.out.mono ?_
                    rintro e w8 ⟨rfl, hA8, hf8⟩
                    have HV8 := Lib.hid (HV7.out.fr hf8); have HA8 := Lib.hid hA8; have HF8 := Lib.hid (HF7.out.trans hf8)
                    have d1 : w8.cell? ⟨w5.heap.size, 1, none⟩ = some (.int .i64 dd) := (hf8.cell hbn7 hbO 1).trans c1
                    have hbn8 : w5.heap.size < w8.heap.size := Nat.lt_of_lt_of_le hbn7 hf8.size
                    clear hA8 hf8 c1
                    go_wp2_with fail
                    refine (c_VFuel HV8.out HA8.out).mono ?_
                    rintro e w9 ⟨rfl, hb9⟩
                    have HF9 := Lib.hid (HF8.out.next hb9); have HA9 := Lib.hid (HA8.out.next hb9)
                    replace d1 := (hb9.cell (p := ⟨w5.heap.size, 1, none⟩) hbn8).trans d1
                    go_wp2_with fail
                    exact ⟨⟨i + 1, 0, by omega, by go_num, by have := HIF.out; omega, HA9.out, HF9.out⟩, by simp [intOf]; omega⟩
                  · have hfp : (0 : Int) < (ff : Int) := by omega
                    go_wp2_with fail
                    refine HSS.out.mono ?_
                    rintro e w8 ⟨rfl, hA8, hf8⟩
                    have HV8 := Lib.hid (HV7.out.fr hf8); have HA8 := Lib.hid hA8; have HF8 := Lib.hid (HF7.out.trans hf8)
                    have d1 : w8.cell? ⟨w5.heap.size, 1, none⟩ = some (.int .i64 dd) := (hf8.cell hbn7 hbO 1).trans c1
                    have hbn8 : w5.heap.size < w8.heap.size := Nat.lt_of_lt_of_le hbn7 hf8.size
                    clear hA8 hf8 c1
                    go_wp2_with fail
                    refine (c_VFuel HV8.out HA8.out).mono ?_
                    rintro e w9 ⟨rfl, hb9⟩
                    have HF9 := Lib.hid (HF8.out.next hb9); have HA9 := Lib.hid (HA8.out.next hb9)
                    replace d1 := (hb9.cell (p := ⟨w5.heap.size, 1, none⟩) hbn8).trans d1
                    go_wp2_with fail
                    exact ⟨⟨i + 1, ff, by omega, by go_num, by have := HIF.out; omega, HA9.out, HF9.out⟩, by simp [intOf]; omega⟩
                · have hs := c_VStepErr HV7.out HVE.out (j := i) (f := ff) (by omega) (by have := HIF.out; omega) (by have := HIF.out; omega) HA7.out h4
                  have hf0 : (0 : Int) < ((ff + 1 : Nat) : Int) := by omega
                  obtain ⟨f1, hf1⟩ : ∃ f1, ff + 1 = f1 := ⟨_, rfl⟩
                  rw [hf1] at hs hf0
                  obtain ⟨ee, hee⟩ : ∃ ee, te im.code M i = ee := ⟨_, rfl⟩
                  rw [hee] at hs h4
                  have h5 : (ee != 0) = true := by simpa using h4
                  have HSS := Lib.hid hs
                  clear hs h4 hee hf1
                  go_wp2_with fail
                  refine HSS.out.mono ?_
                  rintro e w8 ⟨rfl, hA8, hf8⟩
                  have HV8 := Lib.hid (HV7.out.fr hf8); have HA8 := Lib.hid hA8; have HF8 := Lib.hid (HF7.out.trans hf8)
                  have d1 : w8.cell? ⟨w5.heap.size, 1, none⟩ = some (.int .i64 dd) := (hf8.cell hbn7 hbO 1).trans c1
                  have hbn8 : w5.heap.size < w8.heap.size := Nat.lt_of_lt_of_le hbn7 hf8.size
                  clear hA8 hf8 c1
                  go_wp2_with fail
                  refine (c_VFuel HV8.out HA8.out).mono ?_
                  rintro e w9 ⟨rfl, hb9⟩
                  have HF9 := Lib.hid (HF8.out.next hb9); have HA9 := Lib.hid (HA8.out.next hb9)
                  replace d1 := (hb9.cell (p := ⟨w5.heap.size, 1, none⟩) hbn8).trans d1
                  go_wp2_with fail
                  go_ret
                  exact ⟨rfl, BEL.out _ HF9.out⟩
      · obtain rfl : i = 40 := by omega
        go_wp2_with fail
        go_ret
        exact ⟨rfl, BEL.out _ HFr.out⟩
theorem c_lawVmHaltsI (A : Option Addr) (n cap : Nat) (im : Img) (M : Mach) (vm vs vc vi vo : Value) (sv : List Value) (w : World) (hC : Rd w (· < w.heap.size) 5 A n (codeCells im.code)) (hw : CodeWf im.code) (hL : MLs w (· < w.heap.size) M vm vs vc vi vo sv) (hwf : MWf M) (hl : ∀ l ∈ M.s, l.length ≤ 281474976710656) (hTab : TableAt w) (st : Int) (st0 : 0 ≤ st) (st1 : st ≤ 255) :
    Calls Tryd.prog 3 #[.agg #[.slice A n cap, .int .i64 im.mem, .int .i64 im.stacks], .agg (mcells M vm vs vc vi vo).toArray, .int .u8 st] w fun e w' => e = .returned (.bool true) ∧ Below w.heap.size w w' := by
  obtain ⟨x, rfl⟩ := Int.eq_ofNat_of_zero_le st0
  exact c_lawVmHalts A n cap im M vm vs vc vi vo sv w hC hw hL hwf hl hTab x (by omega)
end Go.Proofs.YtmdjpmfkghjlhaaDoor
