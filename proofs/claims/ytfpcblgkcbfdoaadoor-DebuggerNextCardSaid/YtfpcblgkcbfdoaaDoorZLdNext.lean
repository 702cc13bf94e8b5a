/- The walk of the law DebuggerNext. -/
import Derived.Test.YtfpcblgkcbfdoaaDoorDbY
set_option linter.unusedVariables false
set_option linter.unusedSimpArgs false
set_option maxRecDepth 100000
namespace Go.Proofs.YtfpcblgkcbfdoaaDoor
open Go.RowKit Bk
theorem te_out {code : Prg} {M : Mach} (h : nextAt M < 0 ∨ (code.length : Int) ≤ nextAt M) : (Bk.step code M).1 = 4 := by
  rw [step_eq, if_pos h]
set_option maxHeartbeats 16000000 in
theorem c_lawDebuggerNext (A : Option Addr) (n cap : Nat) (im : Img) (M : Mach) (vm vs vc vi vo : Value) (sv : List Value) (w : World) (hC : Rd w (· < w.heap.size) 5 A n (codeCells im.code)) (hw : CodeWf im.code) (hL : MLs w (· < w.heap.size) M vm vs vc vi vo sv) (hwf : MWf M) (hl : ∀ l ∈ M.s, l.length ≤ 17592186043904) (hTab : TableAt w) (x : Nat) (hx : x ≤ 255) :
    Calls Tryd.prog 3 #[.agg #[.slice A n cap, .int .i64 im.mem, .int .i64 im.stacks], .agg (mcells M vm vs vc vi vo).toArray, .int .u8 (x : Int)] w fun e w' => e = .returned (.bool true) ∧ Below w.heap.size w w' := by
  obtain ⟨v, hv⟩ : ∃ v, okD im M = v := ⟨_, rfl⟩
  have HOK := Lib.hid hv; clear hv
  have hwx : IntKind.i64.wrap (x : Int) = (x : Int) := wrap_small _ (by omega) (by omega)
  obtain ⟨t, ht⟩ : ∃ t : Nat, t = x % 40 := ⟨_, rfl⟩
  have hmod : (x : Int).tmod 40 = (t : Int) := by rw [Int.tmod_eq_emod_of_nonneg (by omega)]; omega
  have ht40 : t < 40 := by omega
  clear ht
  have hnn : n = im.code.length := by have := hC.1; rw [codeCells_length] at this; omega
  have HC := Lib.hid hC; have HT := Lib.hid hTab; have HL := Lib.hid hL; have HLL := Lib.hid hl; have HN := Lib.hid hnn; have HWF := Lib.hid hwf
  clear hC hTab hL hl hnn hwf
  go_enter Tryd.func3, Tryd.ntmps3
  go_upto_region 1 with fail
  refine wp_nameY ?_
  intro w1 hw1
  have hB_w1 : Below w.heap.size w w1 := by rw [hw1]; exact (by repeat' (first | (with_reducible assumption) | (with_reducible exact Below.refl _ _) | (with_reducible refine Below.alloc ?_ ?_ _) | (with_reducible refine Bk.drewN_ ?_ _) | (with_reducible refine Below.drew ?_) | (with_reducible refine Below.setCell ?_ ?_ _) | go_size))
  have K_1 : Blk w1 w.heap.size 24 #[.slice A n cap, .int .i64 im.mem, .int .i64 im.stacks] := by rw [hw1]; exact (by repeat' (first | with_reducible assumption | (refine Blk.new' ?_ _ _; simp; done) | refine Blk.alloc ?_ _ | refine Blk.drewN ?_ _ | refine Blk.drew ?_))
  have KM : Blk w1 (w.heap.size + 1) 30 (mcells M vm vs vc vi vo).toArray := by rw [hw1]; exact (by repeat' (first | with_reducible assumption | (refine Blk.new' ?_ _ _; simp; done) | refine Blk.alloc ?_ _ | refine Blk.drewN ?_ _ | refine Blk.drew ?_))
  have HM := Lib.hid ((HL.out.next hB_w1).at_ KM)
  have zz : w1.heap.size = w.heap.size + 2 := by rw [hw1]; simp
  clear hw1 KM
  obtain ⟨z_1, T_1, F_1⟩ := K_1.open_; have H_1 := Lib.hid K_1; clear K_1
  go_wp2_with fail
  refine (c_awake33 _ (HT.out.next hB_w1)).mono ?_
  rintro e w2 ⟨rfl, hb2⟩
  have hB_w2 := hB_w1.next hb2
  replace HM := Lib.hid (HM.out.next hb2)
  have K_1 : Blk w2 (w.heap.size) 24 #[.slice A n cap, .int .i64 im.mem, .int .i64 im.stacks] := Blk.next (by repeat' (first | with_reducible exact H_1.out | with_reducible exact K0_1 | (refine Blk.new' ?_ _ _; simp; done) | with_reducible refine Blk.alloc ?_ _ | with_reducible refine Blk.drewN ?_ _ | with_reducible refine Blk.drew ?_)) hb2; (try clear H_1); (try clear T_1); (try clear z_1); (try clear F_1); obtain ⟨z_1, T_1, F_1⟩ := K_1.open_; have H_1 := Lib.hid K_1; clear K_1
  have z2 := hb2.size
  clear hb2
  go_wp2_with (refine wpList_loadG 30 rfl rfl rfl (load_mach HM.out) ?_; simp only [Act.put, List.setIfInBounds_toArray, List.set_cons_succ, List.set_cons_zero])
  cases v with
  | false =>
    refine (c_MadeNone A n cap im M vm vs vc vi vo sv w2 (Rd.upL HC.out hB_w2) hw (MLs.up HL.out hB_w2) HWF.out HLL.out (HT.out.next hB_w2) HOK.out).mono ?_
    rintro e w3 ⟨rfl, hb3⟩
    have hB_w3 := hB_w2.next hb3
    clear hb3
    go_wp2_with fail
    go_ret
    exact ⟨rfl, hB_w3⟩
  | true =>
    refine (c_MadeOk A n cap im M vm vs vc vi vo sv w2 (Rd.upL HC.out hB_w2) hw (MLs.up HL.out hB_w2) HWF.out HLL.out (HT.out.next hB_w2) HOK.out).mono ?_
    rintro e w3 ⟨P, A', n', cap', rfl, hV, hA, hO, hfx, hR, hb3⟩
    have hB_w3 := hB_w2.next hb3
    replace HM := Lib.hid (HM.out.next hb3)
    have K_1 : Blk w3 (w.heap.size) 24 #[.slice A n cap, .int .i64 im.mem, .int .i64 im.stacks] := Blk.next (by repeat' (first | with_reducible exact H_1.out | with_reducible exact K0_1 | (refine Blk.new' ?_ _ _; simp; done) | with_reducible refine Blk.alloc ?_ _ | with_reducible refine Blk.drewN ?_ _ | with_reducible refine Blk.drew ?_)) hb3; (try clear H_1); (try clear T_1); (try clear z_1); (try clear F_1); obtain ⟨z_1, T_1, F_1⟩ := K_1.open_; have H_1 := Lib.hid K_1; clear K_1
    obtain ⟨hg, hck, hf⟩ := okD.facts HOK.out
    have hsm := Sm25.of hg
    have HVE : Hid (VEnv im M 41) := Lib.hid (VEnv.sm hsm hck hw HWF.out hf (by decide))
    have HSM := Lib.hid hsm
    have HV := Lib.hid hV; have HA := Lib.hid hA; have HO := Lib.hid hO; have HFX := Lib.hid hfx; have HR := Lib.hid hR
    have z3 := hb3.size
    have zb2 := hB_w2.size
    have BEL : Hid (∀ wz, Fr P.O w3 wz → Below w.heap.size w wz) := Lib.hid fun wz hf => hB_w3.trans (hf.below (B := w.heap.size) (by omega) (fun k hk => by have := (hO k hk).1; omega))
    have HNO : Hid (∀ k, k < w2.heap.size → ¬ P.O k) := Lib.hid fun k hk ho => by have := (hO k ho).1; omega
    have HM3 := Lib.hid HM.out
    have H3_1 := Lib.hid H_1.out
    clear hV hA hO hfx hR hb3 hg hck hf hsm HM
    clear T_1 z_1 F_1 H_1
    go_wp2_with fail
    refine (c_SeekAny (j := 0) (t := t) HV.out HVE.out (by omega) (by omega) (by omega) (by omega) HA.out).mono ?_
    rintro e w4 ⟨ee, j, rfl, hj, hA4, hf4⟩
    have hj40 : j < 40 := by rcases hj with h | h <;> omega
    have HV4 := Lib.hid (HV.out.fr hf4); have HA4 := Lib.hid hA4; have HF4 := Lib.hid hf4
    have z4 := hf4.size
    clear hA4 hf4 hj
    go_wp2_with fail
    refine (c_DMachine HV4.out HVE.out (j := j) (by omega) HA4.out).mono ?_
    rintro e w5 ⟨vmn, vsn, vcn, vin, von, svn, rfl, hO5, hb5⟩
    have HL5 := Lib.hid (mc_len (tr im.code M j) vmn vsn vcn vin von hO5.1)
    have HONE : Hid (∀ v ∈ mcells (tr im.code M j) vmn vsn vcn vin von, v.oneCell' = true) := Lib.hid (by
      obtain ⟨_, _, rfl, _⟩ := hO5.mls.m; obtain ⟨_, _, rfl, _⟩ := hO5.mls.s; obtain ⟨_, _, rfl, _⟩ := hO5.mls.l.2.1; obtain ⟨_, _, rfl, _⟩ := hO5.mls.l.2.2.1; obtain ⟨_, _, rfl, _⟩ := hO5.mls.l.2.2.2
      exact mc_one rfl rfl rfl rfl rfl)
    have hrl : (tr im.code M j).r.length = 16 := hO5.1
    have HOW5 := Lib.hid hO5
    clear hO5
    go_upto_region 8 with (refine wpList_store_row rfl 30 (.tmp 8) (.tmp 25) rfl w5.heap.size _ rfl rfl 30 #[.int .i64 0, .int .i64 0, .int .i64 0, .int .i64 0, .int .i64 0, .int .i64 0, .int .i64 0, .int .i64 0, .int .i64 0, .int .i64 0, .int .i64 0, .int .i64 0, .int .i64 0, .int .i64 0, .int .i64 0, .int .i64 0, .int .i64 0, .int .i64 0, .slice none 0 0, .slice none 0 0, .slice none 0 0, .int .i64 0, .int .i64 0, .slice none 0 0, .slice none 0 0] (heap_alloc_new w5 _) (by rw [info_mach25]; simp [HL5.out]) (by simp [HL5.out]) (all_oneCell_toArray HONE.out) ?_; simp only [Act.put, List.setIfInBounds_toArray, List.set_cons_succ, List.set_cons_zero])
    refine wp_nameY ?_
    intro w6 hw6
    rw [World.setRow_alloc_new] at hw6
    have hb6 : Below w5.heap.size w5 w6 := by rw [hw6]; exact (by repeat' (first | (with_reducible assumption) | (with_reducible exact Below.refl _ _) | (with_reducible refine Below.alloc ?_ ?_ _) | (with_reducible refine Bk.drewN_ ?_ _) | (with_reducible refine Below.drew ?_) | (with_reducible refine Below.setCell ?_ ?_ _) | go_size))
    have K6 : Blk w6 w5.heap.size 30 (mcells (tr im.code M j) vmn vsn vcn vin von).toArray := by rw [hw6]; exact Blk.new _ _ _
    have hbb := hb5.next hb6
    have HV6 := Lib.hid (HV4.out.next hbb); have HA6 := Lib.hid (HA4.out.next hbb); have HF6 := Lib.hid (HF4.out.next hbb)
    have c0 : w6.cell? ⟨w5.heap.size, 0, none⟩ = some (.int .i64 (tr im.code M j).pc) := by rw [K6.cell 0, List.getElem?_toArray]; rfl
    have c1 : w6.cell? ⟨w5.heap.size, 1, none⟩ = some (.int .i64 (tr im.code M j).dir) := by rw [K6.cell 1, List.getElem?_toArray]; rfl
    have hbn : w5.heap.size < w6.heap.size := K6.lt
    have HI6 : Hid (Blk w6 w.heap.size 24 #[.slice A n cap, .int .i64 im.mem, .int .i64 im.stacks]) := Lib.hid (HF6.out.blk H3_1.out (HNO.out _ (by omega)))
    have HC6 := Lib.hid (Rd.upL HC.out (BEL.out _ HF6.out))
    clear hw6 hb6 hb5 hbb K6 hrl HL5 HONE HOW5 HV4 HA4 HF4
    obtain ⟨pc, hpc⟩ : ∃ pc, (tr im.code M j).pc = pc := ⟨_, rfl⟩
    obtain ⟨dd, hdd⟩ : ∃ dd, (tr im.code M j).dir = dd := ⟨_, rfl⟩
    have hfit := HVE.out.fit j
    have p0 := hfit.p0; have p1 := hfit.p1; have hd := hfit.d
    have hnn : n = im.code.length := HN.out
    rw [← hnn] at p1
    have hnx : nextAt (tr im.code M j) = if dd = -1 then pc - 1 else pc := by unfold nextAt; rw [hpc, hdd]; rcases hd with h | h <;> (rw [hdd] at h; subst h; rfl)
    rw [hpc] at c0 p0 p1; rw [hdd] at c1 hd
    have HNN := Lib.hid hnn
    clear hpc hdd hfit hnn
    rcases hd with rfl | rfl
    · rw [if_neg (by decide)] at hnx
      rcases Int.lt_or_le pc n with hk | hk
      · obtain ⟨k, rfl⟩ := Int.eq_ofNat_of_zero_le p0
        have hkn : k < n := by omega
        have hkc : k < im.code.length := by rw [← HNN.out]; exact hkn
        have HNX := Lib.hid hnx
        have hn60 : n ≤ 60 := by have := HSM.out.c; have := HNN.out; omega
        have hwk : wrap64 (k : Int) = (k : Int) := by simp only [wrap64]; omega
        clear hnx p0 p1 hk
        go_wp2_with fail
        obtain ⟨bc, oc, rfl, hbc, _⟩ := HC6.out.2 (Nat.lt_of_le_of_lt (Nat.zero_le k) hkn)
        have hxx := HC6.out.insAt hkc
        have hs := c_DNextIn HV6.out HVE.out (j := j) (by omega) HA6.out k HNX.out hkc
        obtain ⟨x7, hx7⟩ : ∃ x7, im.code.getD k default = x7 := ⟨_, rfl⟩
        rw [hx7] at hs hxx
        obtain ⟨op, ia, ib, ic, id_⟩ := x7
        obtain ⟨x0, x1, x2, x3, x4⟩ := hxx
        dsimp only at x0 x1 x2 x3 x4
        have HS := Lib.hid hs
        clear hs hx7 hbc
        refine (show Calls Tryd.prog _ _ _ (fun e w' => e = .returned (.tuple #[.agg #[.int .u8 op, .int .i64 ia, .int .i64 ib, .int .i64 ic, .int .i64 id_], .bool true]) ∧ _) from HS.out).mono ?_
        rintro e w7 ⟨rfl, hb7⟩
        have HF7 := Lib.hid (HF6.out.next hb7)
        have HI7 := Lib.hid (HI6.out.next hb7)
        have hbcl : bc < w6.heap.size := World.block_lt_of_cell? w6 _ x0
        replace x0 := (hb7.cell (p := ⟨bc, _, none⟩) hbcl).trans x0; replace x1 := (hb7.cell (p := ⟨bc, _, none⟩) hbcl).trans x1; replace x2 := (hb7.cell (p := ⟨bc, _, none⟩) hbcl).trans x2; replace x3 := (hb7.cell (p := ⟨bc, _, none⟩) hbcl).trans x3; replace x4 := (hb7.cell (p := ⟨bc, _, none⟩) hbcl).trans x4
        have hbcl7 : bc < w7.heap.size := Nat.lt_of_lt_of_le hbcl hb7.size
        have i1 : (0 : Int) ≤ (k : Int) := Int.natCast_nonneg k
        have i2 : (k : Int) < (n : Int) := Int.ofNat_lt.2 hkn
        obtain ⟨z_1, T_1, F_1⟩ := HI7.out.open_
        clear c0 c1 hb7 HS
        go_upto_region 12 with fail
        refine wp_nameY ?_
        intro w8 hw8
        have hb8 : Below w7.heap.size w7 w8 := by rw [hw8]; exact (by repeat' (first | (with_reducible assumption) | (with_reducible exact Below.refl _ _) | (with_reducible refine Below.alloc ?_ ?_ _) | (with_reducible refine Bk.drewN_ ?_ _) | (with_reducible refine Below.drew ?_) | (with_reducible refine Below.setCell ?_ ?_ _) | go_size))
        have K8 : Blk w8 w7.heap.size 38 #[.int .u8 op, .int .i64 ia, .int .i64 ib, .int .i64 ic, .int .i64 id_] := by rw [hw8]; exact (by repeat' (first | with_reducible assumption | (refine Blk.new' ?_ _ _; simp; done) | refine Blk.alloc ?_ _ | refine Blk.drewN ?_ _ | refine Blk.drew ?_))
        replace x0 := (hb8.cell (p := ⟨bc, _, none⟩) hbcl7).trans x0; replace x1 := (hb8.cell (p := ⟨bc, _, none⟩) hbcl7).trans x1; replace x2 := (hb8.cell (p := ⟨bc, _, none⟩) hbcl7).trans x2; replace x3 := (hb8.cell (p := ⟨bc, _, none⟩) hbcl7).trans x3; replace x4 := (hb8.cell (p := ⟨bc, _, none⟩) hbcl7).trans x4
        replace HI7 := Lib.hid (HI7.out.next hb8); replace HF7 := Lib.hid (HF7.out.next hb8)
        have hbcl8 : bc < w8.heap.size := Nat.lt_of_lt_of_le hbcl7 hb8.size
        have HK8 := Lib.hid K8
        clear hw8 hb8 T_1 z_1 F_1 K8
        have X8 := Lib.hid (And.intro x0 (And.intro x1 (And.intro x2 (And.intro x3 x4))))
        have q1 : ¬ ((k : Int) < 0) := Int.not_lt.2 i1
        have q2 : ¬ ((n : Int) ≤ (k : Int)) := Int.not_le.2 i2
        clear x0 x1 x2 x3 x4 hbcl8 hbcl7 hbcl hwk hn60
        obtain ⟨z_1, T_1, F_1⟩ := HI7.out.open_
        clear z_1 F_1
        go_upto_region 14 with fail
        obtain ⟨x0, x1, x2, x3, x4⟩ := X8.out
        have hbcl8 : bc < w8.heap.size := World.block_lt_of_cell? w8 _ x0
        refine wp_region_held_drew (S := fun W => Below w8.heap.size w8 W) (by kernel_rfl) ((Below.refl _ _).drew) (fun hH => ?_)
        refine wpAnyH_take (i := 0) (v := ?_) rfl (by kernel_rfl) (by kernel_rfl) (by kernel_rfl) (fun _ _ _ h => h) (Or.inl ⟨by rfl, ?hy⟩) hH ?_
        case hy => (intro w9_ hS9; clear hS9; go_simp; try with_reducible rfl)
        (try simp only [List.getElem_toArray, List.getElem_cons_zero, List.getElem_cons_succ, Act.put, List.setIfInBounds_toArray, List.set_cons_zero, List.set_cons_succ])
        refine wpAnyH_take (i := 1) (v := ?_) rfl (by kernel_rfl) (by kernel_rfl) (by kernel_rfl) (fun _ _ _ h => h) (Or.inl ⟨by rfl, ?hy⟩) hH ?_
        case hy => (intro w9_ hS9; clear hS9; go_simp; try with_reducible rfl)
        (try simp only [List.getElem_toArray, List.getElem_cons_zero, List.getElem_cons_succ, Act.put, List.setIfInBounds_toArray, List.set_cons_zero, List.set_cons_succ])
        refine wpAnyH_take (i := 2) (v := ?_) rfl (by kernel_rfl) (by kernel_rfl) (by kernel_rfl) (fun _ _ _ h => h) (Or.inl ⟨by rfl, ?hy⟩) hH ?_
        case hy => (intro w9_ hS9; have T9 := (HK8.out.next hS9).cell; clear hS9; go_simp; try with_reducible rfl)
        (try simp only [List.getElem_toArray, List.getElem_cons_zero, List.getElem_cons_succ, Act.put, List.setIfInBounds_toArray, List.set_cons_zero, List.set_cons_succ])
        refine wpAnyH_take (i := 3) (v := ?_) rfl (by kernel_rfl) (by kernel_rfl) (by kernel_rfl) (fun _ _ _ h => h) (Or.inl ⟨by rfl, ?hy⟩) hH ?_
        case hy => (intro w9_ hS9; clear hS9; go_simp; try with_reducible rfl)
        (try simp only [List.getElem_toArray, List.getElem_cons_zero, List.getElem_cons_succ, Act.put, List.setIfInBounds_toArray, List.set_cons_zero, List.set_cons_succ])
        refine wpAnyH_take (i := 4) (v := ?_) rfl (by kernel_rfl) (by kernel_rfl) (by kernel_rfl) (fun _ _ _ h => h) (Or.inl ⟨by rfl, ?hy⟩) hH ?_
        case hy => (intro w9_ hS9; have T9 := (HI7.out.next hS9).cell; clear hS9; go_simp; try with_reducible rfl)
        (try simp only [List.getElem_toArray, List.getElem_cons_zero, List.getElem_cons_succ, Act.put, List.setIfInBounds_toArray, List.set_cons_zero, List.set_cons_succ])
        refine wpAnyH_take (i := 5) (v := ?_) rfl (by kernel_rfl) (by kernel_rfl) (by kernel_rfl) (fun _ _ _ h => h) (Or.inl ⟨by rfl, ?hy⟩) hH ?_
        case hy => (intro w9_ hS9; clear hS9; go_simp; try with_reducible rfl)
        (try simp only [List.getElem_toArray, List.getElem_cons_zero, List.getElem_cons_succ, Act.put, List.setIfInBounds_toArray, List.set_cons_zero, List.set_cons_succ])
        refine wpAnyH_take (i := 6) (v := ?_) rfl (by kernel_rfl) (by kernel_rfl) (by kernel_rfl) (fun _ _ _ h => h) (Or.inl ⟨by rfl, ?hy⟩) hH ?_
        case hy => (intro w9_ hS9; clear hS9; go_simp; try with_reducible rfl)
        (try simp only [List.getElem_toArray, List.getElem_cons_zero, List.getElem_cons_succ, Act.put, List.setIfInBounds_toArray, List.set_cons_zero, List.set_cons_succ])
        refine wpAnyH_take (i := 7) (v := ?_) rfl (by kernel_rfl) (by kernel_rfl) (by kernel_rfl) (fun _ _ _ h => h) (Or.inl ⟨by rfl, ?hy⟩) hH ?_
        case hy => (intro w9_ hS9; have X0 := (hS9.cell (p := ⟨bc, _, none⟩) hbcl8).trans x0; have X1 := (hS9.cell (p := ⟨bc, _, none⟩) hbcl8).trans x1; have X2 := (hS9.cell (p := ⟨bc, _, none⟩) hbcl8).trans x2; have X3 := (hS9.cell (p := ⟨bc, _, none⟩) hbcl8).trans x3; have X4 := (hS9.cell (p := ⟨bc, _, none⟩) hbcl8).trans x4; clear hS9; go_simp; try with_reducible rfl)
        (try simp only [List.getElem_toArray, List.getElem_cons_zero, List.getElem_cons_succ, Act.put, List.setIfInBounds_toArray, List.set_cons_zero, List.set_cons_succ])
        refine wpAnyH_take (i := 8) (v := ?_) rfl (by kernel_rfl) (by kernel_rfl) (by kernel_rfl) (fun _ _ _ h => h) (Or.inl ⟨by rfl, ?hy⟩) hH ?_
        case hy => (intro w9_ hS9; clear hS9; go_simp; try with_reducible rfl)
        (try simp only [List.getElem_toArray, List.getElem_cons_zero, List.getElem_cons_succ, Act.put, List.setIfInBounds_toArray, List.set_cons_zero, List.set_cons_succ])
        refine wpAnyH_take (i := 9) (v := ?_) rfl (by kernel_rfl) (by kernel_rfl) (by kernel_rfl) (fun _ _ _ h => h) (Or.inl ⟨by rfl, ?hy⟩) hH ?_
        case hy => (intro w9_ hS9; clear hS9; go_simp; try with_reducible rfl)
        (try simp only [List.getElem_toArray, List.getElem_cons_zero, List.getElem_cons_succ, Act.put, List.setIfInBounds_toArray, List.set_cons_zero, List.set_cons_succ])
        refine wpAnyH_take (i := 10) (v := ?_) rfl (by kernel_rfl) (by kernel_rfl) (by kernel_rfl) (fun _ _ _ h => h) (Or.inl ⟨by rfl, ?hy⟩) hH ?_
        case hy => (intro w9_ hS9; clear hS9; go_simp; try with_reducible rfl)
        (try simp only [List.getElem_toArray, List.getElem_cons_zero, List.getElem_cons_succ, Act.put, List.setIfInBounds_toArray, List.set_cons_zero, List.set_cons_succ])
        refine wpAnyH_done (by kernel_rfl) ?_ _
        go_wp2_with fail
        go_ret
        exact ⟨rfl, BEL.out _ (HF7.out.next hH)⟩
      · obtain rfl : pc = n := by omega
        have HNX : Hid (nextAt (tr im.code M j) < 0 ∨ (im.code.length : Int) ≤ nextAt (tr im.code M j)) := Lib.hid (.inr (by rw [hnx, ← HNN.out]; exact Int.le_refl _))
        clear hnx p0 p1 hk
        go_wp2_with fail
        have hs := c_DNextOut HV6.out HVE.out (j := j) (by omega) HA6.out HNX.out
        have h4 : te im.code M j = 4 := te_out HNX.out
        have hst := fun (ww : World) (hV : VFx ww P A' n' cap' im) (hA : DAt ww P im.code M j) => c_DStepErr hV HVE.out (j := j) (by omega) hA (by rw [h4]; decide)
        rw [h4] at hst
        have HST := Lib.hid hst
        clear hst h4
        refine hs.mono ?_
        rintro e w7 ⟨rfl, hb7⟩
        have HV7 := Lib.hid (HV6.out.next hb7); have HA7 := Lib.hid (HA6.out.next hb7); have HF7 := Lib.hid (HF6.out.next hb7)
        have HI7 := Lib.hid (HI6.out.next hb7)
        obtain ⟨z_1, T_1, F_1⟩ := HI7.out.open_
        clear c0 c1 hb7 hs
        go_upto_region 12 with fail
        refine wp_nameY ?_
        intro w8 hw8
        have hb8 : Below w7.heap.size w7 w8 := by rw [hw8]; exact (by repeat' (first | (with_reducible assumption) | (with_reducible exact Below.refl _ _) | (with_reducible refine Below.alloc ?_ ?_ _) | (with_reducible refine Bk.drewN_ ?_ _) | (with_reducible refine Below.drew ?_) | (with_reducible refine Below.setCell ?_ ?_ _) | go_size))
        have K8 : Blk w8 w7.heap.size 38 #[.int .u8 0, .int .i64 0, .int .i64 0, .int .i64 0, .int .i64 0] := by rw [hw8]; exact (by repeat' (first | with_reducible assumption | (refine Blk.new' ?_ _ _; simp; done) | refine Blk.alloc ?_ _ | refine Blk.drewN ?_ _ | refine Blk.drew ?_))
        have HV8 := Lib.hid (HV7.out.next hb8); have HA8 := Lib.hid (HA7.out.next hb8); have HF8 := Lib.hid (HF7.out.next hb8)
        replace HI7 := Lib.hid (HI7.out.next hb8)
        clear hw8 hb8 T_1 z_1 F_1
        obtain ⟨z_1, T_1, F_1⟩ := HI7.out.open_
        obtain ⟨z_8, T_8, F_8⟩ := K8.open_
        go_wp2_with fail
        refine (HST.out _ HV8.out HA8.out).mono ?_
        rintro e w9 ⟨rfl, hA9, hf9⟩
        clear T_1 z_1 F_1 T_8 z_8 F_8 hA9
        go_wp2_with fail
        go_ret
        exact ⟨rfl, BEL.out _ (HF8.out.trans hf9)⟩
    · rw [if_pos rfl] at hnx
      rcases Int.lt_or_le 0 pc with hk | hk
      · obtain ⟨k, hkk⟩ : ∃ k : Nat, pc = (k : Int) + 1 := ⟨(pc - 1).toNat, by omega⟩
        subst hkk
        have hkn : k < n := by omega
        have hkc : k < im.code.length := by rw [← HNN.out]; exact hkn
        have e9 : (k : Int) + 1 - 1 = (k : Int) := by omega
        rw [e9] at hnx
        have HNX := Lib.hid hnx
        have hn60 : n ≤ 60 := by have := HSM.out.c; have := HNN.out; omega
        have hwk : wrap64 (k : Int) = (k : Int) := by simp only [wrap64]; omega
        clear hnx p0 p1 hk
        go_wp2_with fail
        obtain ⟨bc, oc, rfl, hbc, _⟩ := HC6.out.2 (Nat.lt_of_le_of_lt (Nat.zero_le k) hkn)
        have hxx := HC6.out.insAt hkc
        have hs := c_DNextIn HV6.out HVE.out (j := j) (by omega) HA6.out k HNX.out hkc
        obtain ⟨x7, hx7⟩ : ∃ x7, im.code.getD k default = x7 := ⟨_, rfl⟩
        rw [hx7] at hs hxx
        obtain ⟨op, ia, ib, ic, id_⟩ := x7
        obtain ⟨x0, x1, x2, x3, x4⟩ := hxx
        dsimp only at x0 x1 x2 x3 x4
        have HS := Lib.hid hs
        clear hs hx7 hbc
        refine (show Calls Tryd.prog _ _ _ (fun e w' => e = .returned (.tuple #[.agg #[.int .u8 op, .int .i64 ia, .int .i64 ib, .int .i64 ic, .int .i64 id_], .bool true]) ∧ _) from HS.out).mono ?_
        rintro e w7 ⟨rfl, hb7⟩
        have HF7 := Lib.hid (HF6.out.next hb7)
        have HI7 := Lib.hid (HI6.out.next hb7)
        have hbcl : bc < w6.heap.size := World.block_lt_of_cell? w6 _ x0
        replace x0 := (hb7.cell (p := ⟨bc, _, none⟩) hbcl).trans x0; replace x1 := (hb7.cell (p := ⟨bc, _, none⟩) hbcl).trans x1; replace x2 := (hb7.cell (p := ⟨bc, _, none⟩) hbcl).trans x2; replace x3 := (hb7.cell (p := ⟨bc, _, none⟩) hbcl).trans x3; replace x4 := (hb7.cell (p := ⟨bc, _, none⟩) hbcl).trans x4
        have hbcl7 : bc < w7.heap.size := Nat.lt_of_lt_of_le hbcl hb7.size
        have i1 : (0 : Int) ≤ (k : Int) := Int.natCast_nonneg k
        have i2 : (k : Int) < (n : Int) := Int.ofNat_lt.2 hkn
        obtain ⟨z_1, T_1, F_1⟩ := HI7.out.open_
        clear c0 c1 hb7 HS
        go_upto_region 12 with fail
        refine wp_nameY ?_
        intro w8 hw8
        have hb8 : Below w7.heap.size w7 w8 := by rw [hw8]; exact (by repeat' (first | (with_reducible assumption) | (with_reducible exact Below.refl _ _) | (with_reducible refine Below.alloc ?_ ?_ _) | (with_reducible refine Bk.drewN_ ?_ _) | (with_reducible refine Below.drew ?_) | (with_reducible refine Below.setCell ?_ ?_ _) | go_size))
        have K8 : Blk w8 w7.heap.size 38 #[.int .u8 op, .int .i64 ia, .int .i64 ib, .int .i64 ic, .int .i64 id_] := by rw [hw8]; exact (by repeat' (first | with_reducible assumption | (refine Blk.new' ?_ _ _; simp; done) | refine Blk.alloc ?_ _ | refine Blk.drewN ?_ _ | refine Blk.drew ?_))
        replace x0 := (hb8.cell (p := ⟨bc, _, none⟩) hbcl7).trans x0; replace x1 := (hb8.cell (p := ⟨bc, _, none⟩) hbcl7).trans x1; replace x2 := (hb8.cell (p := ⟨bc, _, none⟩) hbcl7).trans x2; replace x3 := (hb8.cell (p := ⟨bc, _, none⟩) hbcl7).trans x3; replace x4 := (hb8.cell (p := ⟨bc, _, none⟩) hbcl7).trans x4
        replace HI7 := Lib.hid (HI7.out.next hb8); replace HF7 := Lib.hid (HF7.out.next hb8)
        have hbcl8 : bc < w8.heap.size := Nat.lt_of_lt_of_le hbcl7 hb8.size
        have HK8 := Lib.hid K8
        clear hw8 hb8 T_1 z_1 F_1 K8
        have X8 := Lib.hid (And.intro x0 (And.intro x1 (And.intro x2 (And.intro x3 x4))))
        have q1 : ¬ ((k : Int) < 0) := Int.not_lt.2 i1
        have q2 : ¬ ((n : Int) ≤ (k : Int)) := Int.not_le.2 i2
        clear x0 x1 x2 x3 x4 hbcl8 hbcl7 hbcl hwk hn60
        obtain ⟨z_1, T_1, F_1⟩ := HI7.out.open_
        clear z_1 F_1
        go_upto_region 14 with fail
        obtain ⟨x0, x1, x2, x3, x4⟩ := X8.out
        have hbcl8 : bc < w8.heap.size := World.block_lt_of_cell? w8 _ x0
        refine wp_region_held_drew (S := fun W => Below w8.heap.size w8 W) (by kernel_rfl) ((Below.refl _ _).drew) (fun hH => ?_)
        refine wpAnyH_take (i := 0) (v := ?_) rfl (by kernel_rfl) (by kernel_rfl) (by kernel_rfl) (fun _ _ _ h => h) (Or.inl ⟨by rfl, ?hy⟩) hH ?_
        case hy => (intro w9_ hS9; clear hS9; go_simp; try with_reducible rfl)
        (try simp only [List.getElem_toArray, List.getElem_cons_zero, List.getElem_cons_succ, Act.put, List.setIfInBounds_toArray, List.set_cons_zero, List.set_cons_succ])
        refine wpAnyH_take (i := 1) (v := ?_) rfl (by kernel_rfl) (by kernel_rfl) (by kernel_rfl) (fun _ _ _ h => h) (Or.inl ⟨by rfl, ?hy⟩) hH ?_
        case hy => (intro w9_ hS9; clear hS9; go_simp; try with_reducible rfl)
        (try simp only [List.getElem_toArray, List.getElem_cons_zero, List.getElem_cons_succ, Act.put, List.setIfInBounds_toArray, List.set_cons_zero, List.set_cons_succ])
        refine wpAnyH_take (i := 2) (v := ?_) rfl (by kernel_rfl) (by kernel_rfl) (by kernel_rfl) (fun _ _ _ h => h) (Or.inl ⟨by rfl, ?hy⟩) hH ?_
        case hy => (intro w9_ hS9; have T9 := (HK8.out.next hS9).cell; clear hS9; go_simp; try with_reducible rfl)
        (try simp only [List.getElem_toArray, List.getElem_cons_zero, List.getElem_cons_succ, Act.put, List.setIfInBounds_toArray, List.set_cons_zero, List.set_cons_succ])
        refine wpAnyH_take (i := 3) (v := ?_) rfl (by kernel_rfl) (by kernel_rfl) (by kernel_rfl) (fun _ _ _ h => h) (Or.inl ⟨by rfl, ?hy⟩) hH ?_
        case hy => (intro w9_ hS9; clear hS9; go_simp; try with_reducible rfl)
        (try simp only [List.getElem_toArray, List.getElem_cons_zero, List.getElem_cons_succ, Act.put, List.setIfInBounds_toArray, List.set_cons_zero, List.set_cons_succ])
        refine wpAnyH_take (i := 4) (v := ?_) rfl (by kernel_rfl) (by kernel_rfl) (by kernel_rfl) (fun _ _ _ h => h) (Or.inl ⟨by rfl, ?hy⟩) hH ?_
        case hy => (intro w9_ hS9; have T9 := (HI7.out.next hS9).cell; clear hS9; go_simp; try with_reducible rfl)
        (try simp only [List.getElem_toArray, List.getElem_cons_zero, List.getElem_cons_succ, Act.put, List.setIfInBounds_toArray, List.set_cons_zero, List.set_cons_succ])
        refine wpAnyH_take (i := 5) (v := ?_) rfl (by kernel_rfl) (by kernel_rfl) (by kernel_rfl) (fun _ _ _ h => h) (Or.inl ⟨by rfl, ?hy⟩) hH ?_
        case hy => (intro w9_ hS9; clear hS9; go_simp; try with_reducible rfl)
        (try simp only [List.getElem_toArray, List.getElem_cons_zero, List.getElem_cons_succ, Act.put, List.setIfInBounds_toArray, List.set_cons_zero, List.set_cons_succ])
        refine wpAnyH_take (i := 6) (v := ?_) rfl (by kernel_rfl) (by kernel_rfl) (by kernel_rfl) (fun _ _ _ h => h) (Or.inl ⟨by rfl, ?hy⟩) hH ?_
        case hy => (intro w9_ hS9; clear hS9; go_simp; try with_reducible rfl)
        (try simp only [List.getElem_toArray, List.getElem_cons_zero, List.getElem_cons_succ, Act.put, List.setIfInBounds_toArray, List.set_cons_zero, List.set_cons_succ])
        refine wpAnyH_take (i := 7) (v := ?_) rfl (by kernel_rfl) (by kernel_rfl) (by kernel_rfl) (fun _ _ _ h => h) (Or.inl ⟨by rfl, ?hy⟩) hH ?_
        case hy => (intro w9_ hS9; have X0 := (hS9.cell (p := ⟨bc, _, none⟩) hbcl8).trans x0; have X1 := (hS9.cell (p := ⟨bc, _, none⟩) hbcl8).trans x1; have X2 := (hS9.cell (p := ⟨bc, _, none⟩) hbcl8).trans x2; have X3 := (hS9.cell (p := ⟨bc, _, none⟩) hbcl8).trans x3; have X4 := (hS9.cell (p := ⟨bc, _, none⟩) hbcl8).trans x4; clear hS9; go_simp; try with_reducible rfl)
        (try simp only [List.getElem_toArray, List.getElem_cons_zero, List.getElem_cons_succ, Act.put, List.setIfInBounds_toArray, List.set_cons_zero, List.set_cons_succ])
        refine wpAnyH_take (i := 8) (v := ?_) rfl (by kernel_rfl) (by kernel_rfl) (by kernel_rfl) (fun _ _ _ h => h) (Or.inl ⟨by rfl, ?hy⟩) hH ?_
        case hy => (intro w9_ hS9; clear hS9; go_simp; try with_reducible rfl)
        (try simp only [List.getElem_toArray, List.getElem_cons_zero, List.getElem_cons_succ, Act.put, List.setIfInBounds_toArray, List.set_cons_zero, List.set_cons_succ])
        refine wpAnyH_take (i := 9) (v := ?_) rfl (by kernel_rfl) (by kernel_rfl) (by kernel_rfl) (fun _ _ _ h => h) (Or.inl ⟨by rfl, ?hy⟩) hH ?_
        case hy => (intro w9_ hS9; clear hS9; go_simp; try with_reducible rfl)
        (try simp only [List.getElem_toArray, List.getElem_cons_zero, List.getElem_cons_succ, Act.put, List.setIfInBounds_toArray, List.set_cons_zero, List.set_cons_succ])
        refine wpAnyH_take (i := 10) (v := ?_) rfl (by kernel_rfl) (by kernel_rfl) (by kernel_rfl) (fun _ _ _ h => h) (Or.inl ⟨by rfl, ?hy⟩) hH ?_
        case hy => (intro w9_ hS9; clear hS9; go_simp; try with_reducible rfl)
        (try simp only [List.getElem_toArray, List.getElem_cons_zero, List.getElem_cons_succ, Act.put, List.setIfInBounds_toArray, List.set_cons_zero, List.set_cons_succ])
        refine wpAnyH_done (by kernel_rfl) ?_ _
        go_wp2_with fail
        go_ret
        exact ⟨rfl, BEL.out _ (HF7.out.next hH)⟩
      · obtain rfl : pc = 0 := by omega
        have HNX : Hid (nextAt (tr im.code M j) < 0 ∨ (im.code.length : Int) ≤ nextAt (tr im.code M j)) := Lib.hid (.inl (by rw [hnx]; decide))
        clear hnx p0 p1 hk
        go_wp2_with fail
        have hs := c_DNextOut HV6.out HVE.out (j := j) (by omega) HA6.out HNX.out
        have h4 : te im.code M j = 4 := te_out HNX.out
        have hst := fun (ww : World) (hV : VFx ww P A' n' cap' im) (hA : DAt ww P im.code M j) => c_DStepErr hV HVE.out (j := j) (by omega) hA (by rw [h4]; decide)
        rw [h4] at hst
        have HST := Lib.hid hst
        clear hst h4
        refine hs.mono ?_
        rintro e w7 ⟨rfl, hb7⟩
        have HV7 := Lib.hid (HV6.out.next hb7); have HA7 := Lib.hid (HA6.out.next hb7); have HF7 := Lib.hid (HF6.out.next hb7)
        have HI7 := Lib.hid (HI6.out.next hb7)
        obtain ⟨z_1, T_1, F_1⟩ := HI7.out.open_
        clear c0 c1 hb7 hs
        go_upto_region 12 with fail
        refine wp_nameY ?_
        intro w8 hw8
        have hb8 : Below w7.heap.size w7 w8 := by rw [hw8]; exact (by repeat' (first | (with_reducible assumption) | (with_reducible exact Below.refl _ _) | (with_reducible refine Below.alloc ?_ ?_ _) | (with_reducible refine Bk.drewN_ ?_ _) | (with_reducible refine Below.drew ?_) | (with_reducible refine Below.setCell ?_ ?_ _) | go_size))
        have K8 : Blk w8 w7.heap.size 38 #[.int .u8 0, .int .i64 0, .int .i64 0, .int .i64 0, .int .i64 0] := by rw [hw8]; exact (by repeat' (first | with_reducible assumption | (refine Blk.new' ?_ _ _; simp; done) | refine Blk.alloc ?_ _ | refine Blk.drewN ?_ _ | refine Blk.drew ?_))
        have HV8 := Lib.hid (HV7.out.next hb8); have HA8 := Lib.hid (HA7.out.next hb8); have HF8 := Lib.hid (HF7.out.next hb8)
        replace HI7 := Lib.hid (HI7.out.next hb8)
        clear hw8 hb8 T_1 z_1 F_1
        obtain ⟨z_1, T_1, F_1⟩ := HI7.out.open_
        obtain ⟨z_8, T_8, F_8⟩ := K8.open_
        go_wp2_with fail
        refine (HST.out _ HV8.out HA8.out).mono ?_
        rintro e w9 ⟨rfl, hA9, hf9⟩
        clear T_1 z_1 F_1 T_8 z_8 F_8 hA9
        go_wp2_with fail
        go_ret
        exact ⟨rfl, BEL.out _ (HF8.out.trans hf9)⟩
theorem c_lawDebuggerNextI (A : Option Addr) (n cap : Nat) (im : Img) (M : Mach) (vm vs vc vi vo : Value) (sv : List Value) (w : World) (hC : Rd w (· < w.heap.size) 5 A n (codeCells im.code)) (hw : CodeWf im.code) (hL : MLs w (· < w.heap.size) M vm vs vc vi vo sv) (hwf : MWf M) (hl : ∀ l ∈ M.s, l.length ≤ 17592186043904) (hTab : TableAt w) (st : Int) (st0 : 0 ≤ st) (st1 : st ≤ 255) :
    Calls Tryd.prog 3 #[.agg #[.slice A n cap, .int .i64 im.mem, .int .i64 im.stacks], .agg (mcells M vm vs vc vi vo).toArray, .int .u8 st] w fun e w' => e = .returned (.bool true) ∧ Below w.heap.size w w' := by
  obtain ⟨x, rfl⟩ := Int.eq_ofNat_of_zero_le st0
  exact c_lawDebuggerNext A n cap im M vm vs vc vi vo sv w hC hw hL hwf hl hTab x (by omega)
end Go.Proofs.YtfpcblgkcbfdoaaDoor
