/- The reference's ints, Equal, with both answers. -/
import Derived.Test.YteenmpjjaheggaaDoorZEqB
import Derived.Test.YteenmpjjaheggaaDoorZREq
set_option linter.unusedVariables false
set_option linter.unusedSimpArgs false
set_option maxRecDepth 100000
set_option maxHeartbeats 8000000
namespace Go.Proofs.YteenmpjjaheggaaDoor
open Go.RowKit Bk
theorem c_rintsB {w : World} {D D' : Nat → Prop} {v v' : Value} {l l' : List Int} (h : Sl w D 1 v l.length (intCells l)) (h' : Sl w D' 1 v' l'.length (intCells l')) (hD : ∀ k, D k → k < w.heap.size) (hD' : ∀ k, D' k → k < w.heap.size) (hmax : l.length ≤ 20000000000000) (hmax' : l'.length ≤ 20000000000000) {r : Bool} (hr : decide (l = l') = r) :
    Calls Tryd.prog 39 #[v, v'] w fun e w' => e = .returned (.bool r) ∧ Below w.heap.size w w' := by
  obtain ⟨A, cap, rfl, _, _, hR⟩ := h
  obtain ⟨A', cap', rfl, _, _, hR'⟩ := h'
  by_cases hll : l.length = l'.length
  · have hnn : ((l.length : Int) != (l.length : Int)) = false := by simp
    rw [← hll] at hR' ⊢
    obtain ⟨n, hn⟩ : ∃ n, l.length = n := ⟨_, rfl⟩
    rw [hn] at hnn hmax hR hR' ⊢
    have hn' : l'.length = n := by rw [← hll, hn]
    have HR := Lib.hid hR; have HR' := Lib.hid hR'; have HN := Lib.hid hn; have HN' := Lib.hid hn'; have HRR := Lib.hid hr
    clear hR hR' hn hn' hll hmax' hr
    go_enter Tryd.func39, Tryd.ntmps39
    go_wp2_with fail
    go_loopw [5] (fun v5 wr => ∃ j : Nat, j ≤ n ∧ v5 = .int .i64 j ∧ (∀ k, k < j → l.getD k 0 = l'.getD k 0) ∧ Below w.heap.size w wr) (fun v _ => n - (intOf v).toNat)
    case atStart => exact ⟨0, Nat.zero_le _, rfl, fun k hk => absurd hk (Nat.not_lt_zero _), by go_grown⟩
    case round =>
      obtain ⟨j, hj, rfl, hpre, hB⟩ := hrel
      have HPRE := Lib.hid hpre; clear hpre
      by_cases hlt : j < n
      · obtain ⟨b, o, rfl, hd, hc⟩ := HR.out.2 (by omega)
        obtain ⟨b', o', rfl, hd', hc'⟩ := HR'.out.2 (by omega)
        have hg := intCells_get l j (by rw [HN.out]; exact hlt)
        have hg' := intCells_get l' j (by rw [HN'.out]; exact hlt)
        have c0 := (hB.cell (p := ⟨b, o + j, none⟩) (hD _ hd)).trans (hc j _ hg)
        have c1 := (hB.cell (p := ⟨b', o' + j, none⟩) (hD' _ hd')).trans (hc' j _ hg')
        have j0 : (0 : Int) ≤ (j : Int) := by omega
        have j1 : (j : Int) < (n : Int) := by omega
        obtain ⟨x, hx⟩ : ∃ x, l.getD j 0 = x := ⟨_, rfl⟩
        obtain ⟨y, hy⟩ : ∃ y, l'.getD j 0 = y := ⟨_, rfl⟩
        rw [hx] at c0; rw [hy] at c1
        have HX := Lib.hid hx; have HY := Lib.hid hy
        clear hc hc' hg hg' hx hy
        by_cases hxy : x = y
        · subst hxy
          have q : (x != x) = false := by simp
          go_wp2_with fail
          go_quiet (fail)
          go_wp2_with fail
          exact ⟨⟨j + 1, by omega, by go_num, fun k hk => by
            rcases Nat.lt_succ_iff_lt_or_eq.1 hk with h | rfl
            · exact HPRE.out k h
            · exact HX.out.trans HY.out.symm, by repeat' (first | (with_reducible assumption) | (with_reducible exact Below.refl _ _) | (with_reducible refine Below.alloc ?_ ?_ _) | (with_reducible refine Bk.drewN_ ?_ _) | (with_reducible refine Below.drew ?_) | (with_reducible refine Below.setCell ?_ ?_ _) | go_size)⟩, by simp [intOf]; omega⟩
        · obtain rfl : false = r := by rw [← HRR.out]; symm; exact decide_eq_false (fun e => hxy (by rw [← HX.out, ← HY.out, e]))
          have q : (x != y) = true := by simpa using hxy
          clear hxy
          go_wp2_with fail
          go_quiet (fail)
          go_wp2_with fail
          go_ret
          exact ⟨rfl, by repeat' (first | (with_reducible assumption) | (with_reducible exact Below.refl _ _) | (with_reducible refine Below.alloc ?_ ?_ _) | (with_reducible refine Bk.drewN_ ?_ _) | (with_reducible refine Below.drew ?_) | (with_reducible refine Below.setCell ?_ ?_ _) | go_size)⟩
      · obtain rfl : j = n := by omega
        obtain rfl : true = r := by rw [← HRR.out]; symm; exact decide_eq_true ((list_ext_getD HN.out HN'.out).1 (fun i hi => HPRE.out i (List.mem_range.1 hi)))
        go_wp2_with fail
        go_ret
        exact ⟨rfl, hB⟩
  · obtain rfl : false = r := by rw [← hr]; symm; exact decide_eq_false (fun e => hll (by rw [e]))
    have q : ((l.length : Int) != (l'.length : Int)) = true := bne_iff_ne.2 (by omega)
    clear hll hr hR hR'
    go_enter Tryd.func39, Tryd.ntmps39
    go_wp2_with fail
    go_ret
    exact ⟨rfl, by repeat' (first | (with_reducible assumption) | (with_reducible exact Below.refl _ _) | (with_reducible refine Below.alloc ?_ ?_ _) | (with_reducible refine Bk.drewN_ ?_ _) | (with_reducible refine Below.drew ?_) | (with_reducible refine Below.setCell ?_ ?_ _) | go_size)⟩
theorem ext_getD {α : Type} {l l' : List α} (h : l.length = l'.length) (d : α) (hh : ∀ k, k < l.length → l.getD k d = l'.getD k d) : l = l' := by
  refine List.ext_getElem h fun i h1 h2 => ?_
  have := hh i h1
  simpa [List.getD_eq_getElem?_getD, h1, h2] using this
theorem c_REqB {w : World} {D D' : Nat → Prop} {M M' : Mach} {vm vs vc vi vo vm' vs' vc' vi' vo' : Value} {sv sv' : List Value} (h : MLs w D M vm vs vc vi vo sv) (h' : MLs w D' M' vm' vs' vc' vi' vo' sv') (hB : MLn M) (hB' : MLn M') {v : Bool} (hv : decide (M = M') = v) :
    Calls Tryd.prog 11 #[.agg (mcells M vm vs vc vi vo).toArray, .agg (mcells M' vm' vs' vc' vi' vo').toArray] w fun e w' => e = .returned (.bool v) ∧ Below w.heap.size w w' := by
  have no : ¬ M = M' → false = v := fun hn => by rw [← hv]; exact (decide_eq_false hn).symm
  have NO := Lib.hid no; have HV := Lib.hid hv
  clear no hv
  obtain ⟨Av, cv, rfl, _⟩ := h.s; obtain ⟨Ac, cc, rfl, _⟩ := h.l.2.1
  obtain ⟨Av', cv', rfl, _⟩ := h'.s; obtain ⟨Ac', cc', rfl, _⟩ := h'.l.2.1
  have HL := Lib.hid h; have HL' := Lib.hid h'; have HB := Lib.hid hB; have HB' := Lib.hid hB'
  have HU := Lib.hid hB.up; have HU' := Lib.hid hB'.up
  have hrl := h.rl; have hrl' := h'.rl
  have hRT : M.r = M'.r → ∀ W : World, (binOp .neq 22 (.agg (intCells M.r).toArray) (.agg (intCells M'.r).toArray)).run Tryd.prog W = .ok (.bool false) W := fun e W => by rw [ne_regs hrl hrl', decide_eq_true e]; rfl
  have hRF : ¬ M.r = M'.r → ∀ W : World, (binOp .neq 22 (.agg (intCells M.r).toArray) (.agg (intCells M'.r).toArray)).run Tryd.prog W = .ok (.bool true) W := fun e W => by rw [ne_regs hrl hrl', decide_eq_false e]; rfl
  have HRT := Lib.hid hRT; have HRF := Lib.hid hRF
  clear h h' hB hB' hrl hrl' hRT hRF
  go_enter Tryd.func11, Tryd.ntmps11
  go_upto_region 1 with fail
  refine wp_nameY ?_
  intro w1 hw1
  have hB_w1 : Below w.heap.size w w1 := by rw [hw1]; exact (by go_grown)
  have K1 : Blk w1 w.heap.size 27 (mcells M vm (.slice Av M.s.length cv) (.slice Ac M.calls.length cc) vi vo).toArray := by rw [hw1]; exact (by repeat' (first | assumption | exact Blk.new' (by simp) _ _ | apply Blk.alloc | apply Blk.drew))
  have K2 : Blk w1 (w.heap.size + 1) 27 (mcells M' vm' (.slice Av' M'.s.length cv') (.slice Ac' M'.calls.length cc') vi' vo').toArray := by rw [hw1]; exact (by repeat' (first | assumption | exact Blk.new' (by simp) _ _ | apply Blk.alloc | apply Blk.drew))
  have HM := Lib.hid ((HL.out.next hB_w1).at_ K1); have HM' := Lib.hid ((HL'.out.next hB_w1).at_ K2)
  clear hw1 K1 K2
  have g0 := HM.out.c0; have i0 := HM'.out.c0; have g1 := HM.out.c1; have i1 := HM'.out.c1; have g18 := HM.out.c18; have i18 := HM'.out.c18; have g19 := HM.out.c19; have i19 := HM'.out.c19; have g20 := HM.out.c20; have i20 := HM'.out.c20; have g21 := HM.out.c21; have i21 := HM'.out.c21; have g22 := HM.out.c22; have i22 := HM'.out.c22; have g23 := HM.out.c23; have i23 := HM'.out.c23; have g24 := HM.out.c24; have i24 := HM'.out.c24; simp only [Nat.zero_add] at g0 i0 g1 i1 g18 i18 g19 i19 g20 i20 g21 i21 g22 i22 g23 i23 g24 i24
  go_step
  simp only [List.append_eq, List.cons_append, List.nil_append]
  by_cases e0 : M.pc = M'.pc
  rotate_left
  · obtain rfl := NO.out (fun h => e0 (by rw [h]))
    have q0 : (M.pc != M'.pc) = true := by simpa using e0
    clear e0
    go_wp2_with (first | (refine wpList_loadG 22 rfl rfl rfl (load_regs HM.out) ?_; simp only [Act.put, Bk.PU]) | (refine wpList_loadG 22 rfl rfl rfl (load_regs HM'.out) ?_; simp only [Act.put, Bk.PU]))
    go_ret
    exact ⟨rfl, by repeat' (first | (with_reducible assumption) | (with_reducible exact Below.refl _ _) | (with_reducible refine Below.alloc ?_ ?_ _) | (with_reducible refine Bk.drewN_ ?_ _) | (with_reducible refine Below.drew ?_) | (with_reducible refine Below.setCell ?_ ?_ _) | go_size)⟩
  have q0 : (M.pc != M'.pc) = false := by simp [e0]
  have E0 := Lib.hid e0; clear e0
  by_cases e1 : M.dir = M'.dir
  rotate_left
  · obtain rfl := NO.out (fun h => e1 (by rw [h]))
    have q1 : (M.dir != M'.dir) = true := by simpa using e1
    clear e1
    go_wp2_with (first | (refine wpList_loadG 22 rfl rfl rfl (load_regs HM.out) ?_; simp only [Act.put, Bk.PU]) | (refine wpList_loadG 22 rfl rfl rfl (load_regs HM'.out) ?_; simp only [Act.put, Bk.PU]))
    go_ret
    exact ⟨rfl, by repeat' (first | (with_reducible assumption) | (with_reducible exact Below.refl _ _) | (with_reducible refine Below.alloc ?_ ?_ _) | (with_reducible refine Bk.drewN_ ?_ _) | (with_reducible refine Below.drew ?_) | (with_reducible refine Below.setCell ?_ ?_ _) | go_size)⟩
  have q1 : (M.dir != M'.dir) = false := by simp [e1]
  have E1 := Lib.hid e1; clear e1
  by_cases e2 : M.r = M'.r
  rotate_left
  · obtain rfl := NO.out (fun h => e2 (by rw [h]))
    have hRR := HRF.out e2
    clear e2
    go_wp2_with (first | (refine wpList_loadG 22 rfl rfl rfl (load_regs HM.out) ?_; simp only [Act.put, Bk.PU]) | (refine wpList_loadG 22 rfl rfl rfl (load_regs HM'.out) ?_; simp only [Act.put, Bk.PU]))
    go_ret
    exact ⟨rfl, by repeat' (first | (with_reducible assumption) | (with_reducible exact Below.refl _ _) | (with_reducible refine Below.alloc ?_ ?_ _) | (with_reducible refine Bk.drewN_ ?_ _) | (with_reducible refine Below.drew ?_) | (with_reducible refine Below.setCell ?_ ?_ _) | go_size)⟩
  have hRR := HRT.out e2
  have E2 := Lib.hid e2; clear e2
  by_cases e3 : M.fp = M'.fp
  rotate_left
  · obtain rfl := NO.out (fun h => e3 (by rw [h]))
    have q3 : (M.fp != M'.fp) = true := by simpa using e3
    clear e3
    go_wp2_with (first | (refine wpList_loadG 22 rfl rfl rfl (load_regs HM.out) ?_; simp only [Act.put, Bk.PU]) | (refine wpList_loadG 22 rfl rfl rfl (load_regs HM'.out) ?_; simp only [Act.put, Bk.PU]))
    go_ret
    exact ⟨rfl, by repeat' (first | (with_reducible assumption) | (with_reducible exact Below.refl _ _) | (with_reducible refine Below.alloc ?_ ?_ _) | (with_reducible refine Bk.drewN_ ?_ _) | (with_reducible refine Below.drew ?_) | (with_reducible refine Below.setCell ?_ ?_ _) | go_size)⟩
  have q3 : (M.fp != M'.fp) = false := by simp [e3]
  have E3 := Lib.hid e3; clear e3
  by_cases e4 : M.sb = M'.sb
  rotate_left
  · obtain rfl := NO.out (fun h => e4 (by rw [h]))
    have q4 : (M.sb != M'.sb) = true := by simpa using e4
    clear e4
    go_wp2_with (first | (refine wpList_loadG 22 rfl rfl rfl (load_regs HM.out) ?_; simp only [Act.put, Bk.PU]) | (refine wpList_loadG 22 rfl rfl rfl (load_regs HM'.out) ?_; simp only [Act.put, Bk.PU]))
    go_ret
    exact ⟨rfl, by repeat' (first | (with_reducible assumption) | (with_reducible exact Below.refl _ _) | (with_reducible refine Below.alloc ?_ ?_ _) | (with_reducible refine Bk.drewN_ ?_ _) | (with_reducible refine Below.drew ?_) | (with_reducible refine Below.setCell ?_ ?_ _) | go_size)⟩
  have q4 : (M.sb != M'.sb) = false := by simp [e4]
  have E4 := Lib.hid e4; clear e4
  obtain ⟨v0, hv0⟩ : ∃ v0, decide (M.m = M'.m) = v0 := ⟨_, rfl⟩
  have HV0 := Lib.hid hv0; clear hv0
  go_wp2_with (first | (refine wpList_loadG 22 rfl rfl rfl (load_regs HM.out) ?_; simp only [Act.put, Bk.PU]) | (refine wpList_loadG 22 rfl rfl rfl (load_regs HM'.out) ?_; simp only [Act.put, Bk.PU]))
  refine (c_rintsB HM.out.m HM'.out.m HM.out.d HM'.out.d HU.out.1 HU'.out.1 HV0.out).mono ?_
  rintro e w2 ⟨rfl, hb⟩
  have hB_w2 := hB_w1.next hb
  replace HM := Lib.hid (HM.out.next hb); replace HM' := Lib.hid (HM'.out.next hb)
  clear g0 i0 g1 i1 g18 i18 g19 i19 g20 i20 g21 i21 g22 i22 g23 i23 g24 i24
  clear hb
  have g0 := HM.out.c0; have i0 := HM'.out.c0; have g1 := HM.out.c1; have i1 := HM'.out.c1; have g18 := HM.out.c18; have i18 := HM'.out.c18; have g19 := HM.out.c19; have i19 := HM'.out.c19; have g20 := HM.out.c20; have i20 := HM'.out.c20; have g21 := HM.out.c21; have i21 := HM'.out.c21; have g22 := HM.out.c22; have i22 := HM'.out.c22; have g23 := HM.out.c23; have i23 := HM'.out.c23; have g24 := HM.out.c24; have i24 := HM'.out.c24; simp only [Nat.zero_add] at g0 i0 g1 i1 g18 i18 g19 i19 g20 i20 g21 i21 g22 i22 g23 i23 g24 i24
  rcases v0 with _ | _
  · obtain rfl := NO.out (fun h => of_decide_eq_false HV0.out (by rw [h]))
    go_wp2_with fail
    go_ret
    exact ⟨rfl, hB_w2⟩
  obtain ⟨v1, hv1⟩ : ∃ v1, decide (M.inp = M'.inp) = v1 := ⟨_, rfl⟩
  have HV1 := Lib.hid hv1; clear hv1
  go_wp2_with fail
  refine (c_rintsB HM.out.li HM'.out.li HM.out.d HM'.out.d HU.out.2.2.2.2.1 HU'.out.2.2.2.2.1 HV1.out).mono ?_
  rintro e w3 ⟨rfl, hb⟩
  have hB_w3 := hB_w2.next hb
  replace HM := Lib.hid (HM.out.next hb); replace HM' := Lib.hid (HM'.out.next hb)
  clear g0 i0 g1 i1 g18 i18 g19 i19 g20 i20 g21 i21 g22 i22 g23 i23 g24 i24
  clear hb
  have g0 := HM.out.c0; have i0 := HM'.out.c0; have g1 := HM.out.c1; have i1 := HM'.out.c1; have g18 := HM.out.c18; have i18 := HM'.out.c18; have g19 := HM.out.c19; have i19 := HM'.out.c19; have g20 := HM.out.c20; have i20 := HM'.out.c20; have g21 := HM.out.c21; have i21 := HM'.out.c21; have g22 := HM.out.c22; have i22 := HM'.out.c22; have g23 := HM.out.c23; have i23 := HM'.out.c23; have g24 := HM.out.c24; have i24 := HM'.out.c24; simp only [Nat.zero_add] at g0 i0 g1 i1 g18 i18 g19 i19 g20 i20 g21 i21 g22 i22 g23 i23 g24 i24
  rcases v1 with _ | _
  · obtain rfl := NO.out (fun h => of_decide_eq_false HV1.out (by rw [h]))
    go_wp2_with fail
    go_ret
    exact ⟨rfl, hB_w3⟩
  obtain ⟨v2, hv2⟩ : ∃ v2, decide (M.out = M'.out) = v2 := ⟨_, rfl⟩
  have HV2 := Lib.hid hv2; clear hv2
  go_wp2_with fail
  refine (c_rintsB HM.out.lo HM'.out.lo HM.out.d HM'.out.d HU.out.2.2.2.2.2 HU'.out.2.2.2.2.2 HV2.out).mono ?_
  rintro e w4 ⟨rfl, hb⟩
  have hB_w4 := hB_w3.next hb
  replace HM := Lib.hid (HM.out.next hb); replace HM' := Lib.hid (HM'.out.next hb)
  clear g0 i0 g1 i1 g18 i18 g19 i19 g20 i20 g21 i21 g22 i22 g23 i23 g24 i24
  clear hb
  have g0 := HM.out.c0; have i0 := HM'.out.c0; have g1 := HM.out.c1; have i1 := HM'.out.c1; have g18 := HM.out.c18; have i18 := HM'.out.c18; have g19 := HM.out.c19; have i19 := HM'.out.c19; have g20 := HM.out.c20; have i20 := HM'.out.c20; have g21 := HM.out.c21; have i21 := HM'.out.c21; have g22 := HM.out.c22; have i22 := HM'.out.c22; have g23 := HM.out.c23; have i23 := HM'.out.c23; have g24 := HM.out.c24; have i24 := HM'.out.c24; simp only [Nat.zero_add] at g0 i0 g1 i1 g18 i18 g19 i19 g20 i20 g21 i21 g22 i22 g23 i23 g24 i24
  rcases v2 with _ | _
  · obtain rfl := NO.out (fun h => of_decide_eq_false HV2.out (by rw [h]))
    go_wp2_with fail
    go_ret
    exact ⟨rfl, hB_w4⟩
  by_cases e10 : M.s.length = M'.s.length
  rotate_left
  · obtain rfl := NO.out (fun h => e10 (by rw [h]))
    have q10 : ((M.s.length : Int) != (M'.s.length : Int)) = true := bne_iff_ne.2 (fun h => e10 (by exact_mod_cast h))
    clear e10
    go_wp2_with fail
    go_ret
    exact ⟨rfl, hB_w4⟩
  have q10 : ((M.s.length : Int) != (M'.s.length : Int)) = false := by simp [e10]
  have E10 := Lib.hid e10; clear e10
  by_cases e11 : M.calls.length = M'.calls.length
  rotate_left
  · obtain rfl := NO.out (fun h => e11 (by rw [h]))
    have q11 : ((M.calls.length : Int) != (M'.calls.length : Int)) = true := bne_iff_ne.2 (fun h => e11 (by exact_mod_cast h))
    clear e11
    go_wp2_with fail
    go_ret
    exact ⟨rfl, hB_w4⟩
  have q11 : ((M.calls.length : Int) != (M'.calls.length : Int)) = false := by simp [e11]
  have E11 := Lib.hid e11; clear e11
  have hms : M.s.length ≤ 16384 := HB.out.sl
  have hcs : M.calls.length ≤ 10000 := HB.out.cl
  go_wp2_with fail
  clear g0 i0 g1 i1 g18 i18 g19 i19 g20 i20 g21 i21 g22 i22 g23 i23 g24 i24
  have HM4 := Lib.hid HM.out; have HM4' := Lib.hid HM'.out
  go_loopw [5] (fun v5 wr => ∃ j : Nat, j ≤ M.s.length ∧ v5 = .int .i64 j ∧ (∀ k, k < j → M.s.getD k [] = M'.s.getD k []) ∧ Below w4.heap.size w4 wr) (fun v _ => M.s.length - (intOf v).toNat)
  case atStart => exact ⟨0, Nat.zero_le _, rfl, fun k hk => absurd hk (Nat.not_lt_zero _), Below.refl _ _⟩
  case round =>
    obtain ⟨j, hj, rfl, hpre, hBr⟩ := hrel
    have HPRE := Lib.hid hpre; clear hpre
    have HR := Lib.hid (HM4.out.next hBr); have HR' := Lib.hid (HM4'.out.next hBr)
    have hB_wr := hB_w4.next hBr
    have g19 := HR.out.c19; have i19 := HR'.out.c19
    simp only [Nat.zero_add] at g19 i19
    by_cases hlt : j < M.s.length
    · obtain ⟨_, _, ev, _, _, hR⟩ := HR.out.s
      injection ev with ev _ evc
      subst ev; subst evc
      obtain ⟨bs, os, rfl, hds, hcell⟩ := hR.2 (by omega)
      obtain ⟨u, hu, hsl⟩ := HR.out.l.1.2 j hlt
      have ec := hcell j _ hu
      have hlt' : j < M'.s.length := by rw [← E10.out]; exact hlt
      obtain ⟨_, _, ev, _, _, hR'⟩ := HR'.out.s
      injection ev with ev _ evc
      subst ev; subst evc
      obtain ⟨bs', os', rfl, hds', hcell'⟩ := hR'.2 (by omega)
      obtain ⟨u', hu', hsl'⟩ := HR'.out.l.1.2 j hlt'
      have ec' := hcell' j _ hu'
      have hbs := HR.out.d _ hds; have hbs' := HR'.out.d _ hds'
      have HLE := Lib.hid (HU.out.2.2.1 _ (getD_mem hlt)); have HLE' := Lib.hid (HU'.out.2.2.1 _ (getD_mem hlt'))
      have HS1 := Lib.hid hsl; have HS2 := Lib.hid hsl'
      obtain ⟨A1, c1, rfl, _⟩ := hsl
      obtain ⟨A2, c2, rfl, _⟩ := hsl'
      have j0 : (0 : Int) ≤ (j : Int) := by omega
      have j1 : (j : Int) < (M.s.length : Int) := by omega
      have j2 : (j : Int) < (M'.s.length : Int) := by omega
      clear hR hR' hcell hcell' hu hu' hds hds' hlt'
      obtain ⟨lj, hlj⟩ : ∃ lj, M.s.getD j [] = lj := ⟨_, rfl⟩
      obtain ⟨lj', hlj'⟩ : ∃ lj', M'.s.getD j [] = lj' := ⟨_, rfl⟩
      rw [hlj] at HLE HS1 ec; rw [hlj'] at HLE' HS2 ec'
      obtain ⟨u, hu⟩ : ∃ u, decide (lj = lj') = u := ⟨_, rfl⟩
      have HLJ := Lib.hid hlj; have HLJ' := Lib.hid hlj'; have HUU := Lib.hid hu
      have EC := Lib.hid ec; have EC' := Lib.hid ec'
      clear ec ec' hlj hlj' hu
      rcases u with _ | _
      all_goals
        go_wp2_with fail
        clear g19 i19
        refine wp_region_grow (by kernel_rfl) (by kernel_rfl) ?_; intro W hW; have hneW : Nonempty (Grw W) := ⟨⟨W, Below.refl _ _⟩⟩; have HBz := Lib.hid (fun z => Below.next (show Below w.heap.size w W by (rw [hW]; exact (by go_grown))) (grow_below W z))
        have g19 := fun z => (HR.out.next (w' := grow W z) (by rw [← hW]; exact grow_below W z)).c19
        have i19 := fun z => (HR'.out.next (w' := grow W z) (by rw [← hW]; exact grow_below W z)).c19
        simp only [Nat.zero_add] at g19 i19
        have ez := cell_grow hW hbs EC.out
        have ez' := cell_grow hW hbs' EC'.out
        have HW := Lib.hid hW; clear hW
        repeat (go_big_quiet_step ((go_at_call 39; with_reducible exact quiet_grow (c_rintsB (HS1.out.upD HR.out.d (by rw [← HW.out]; exact grow_below _ _)) (HS2.out.upD HR'.out.d (by rw [← HW.out]; exact grow_below _ _)) (fun k hk => Nat.lt_of_lt_of_le (HR.out.d k hk) (by rw [← HW.out]; exact (grow_below _ _).size)) (fun k hk => Nat.lt_of_lt_of_le (HR'.out.d k hk) (by rw [← HW.out]; exact (grow_below _ _).size)) HLE.out HLE'.out HUU.out))))
        clear g19 i19 ez ez'
        refine wpQuiet_nil ?_
        rintro _ ⟨z, rfl⟩
        have hb5 := grow_below W z
        generalize grow W z = w5 at hb5 ⊢
        rw [HW.out] at hb5
        clear HW HBz hneW
      · obtain rfl := NO.out (fun h => of_decide_eq_false HUU.out (by rw [← HLJ.out, ← HLJ'.out, h]))
        go_wp2_with fail
        go_ret
        exact ⟨rfl, hB_wr.next hb5⟩
      · go_wp2_with fail
        exact ⟨⟨j + 1, by omega, by go_num, fun k hk => by
          rcases Nat.lt_succ_iff_lt_or_eq.1 hk with h | rfl
          · exact HPRE.out k h
          · exact HLJ.out.trans ((of_decide_eq_true HUU.out).trans HLJ'.out.symm), hBr.next hb5⟩, by simp [intOf]; omega⟩
    · obtain rfl : j = M.s.length := by omega
      go_wp2_with fail
      clear g19 i19
      go_loopw [6] (fun v6 wq => ∃ q : Nat, q ≤ M.calls.length ∧ v6 = .int .i64 q ∧ (∀ k, k < q → M.calls.getD k (0, false) = M'.calls.getD k (0, false)) ∧ Below wr.heap.size wr wq) (fun v _ => M.calls.length - (intOf v).toNat)
      case atStart => exact ⟨0, Nat.zero_le _, rfl, fun k hk => absurd hk (Nat.not_lt_zero _), Below.refl _ _⟩
      case round =>
        obtain ⟨q, hq, rfl, hprq, hBq⟩ := hrel
        have HPRQ := Lib.hid hprq; clear hprq
        have HQ := Lib.hid (HR.out.next hBq); have HQ' := Lib.hid (HR'.out.next hBq)
        have hB_wq := hB_wr.next hBq
        have g20 := HQ.out.c20; have i20 := HQ'.out.c20
        simp only [Nat.zero_add] at g20 i20
        by_cases hlt : q < M.calls.length
        · have hlt' : q < M'.calls.length := by rw [← E11.out]; exact hlt
          obtain ⟨_, _, ev, _, _, hR⟩ := HQ.out.lc
          injection ev with ev _ evc
          subst ev; subst evc
          obtain ⟨bs, os, rfl, hds, hcell⟩ := hR.2 (by omega)
          obtain ⟨_, _, ev, _, _, hR'⟩ := HQ'.out.lc
          injection ev with ev _ evc
          subst ev; subst evc
          obtain ⟨bs', os', rfl, hds', hcell'⟩ := hR'.2 (by omega)
          obtain ⟨a0, a1⟩ := actCells_get M.calls q hlt
          obtain ⟨a0', a1'⟩ := actCells_get M'.calls q hlt'
          have c0 := hcell _ _ a0; have c1 := hcell _ _ a1; have d0 := hcell' _ _ a0'; have d1 := hcell' _ _ a1'
          rw [← Nat.add_assoc] at c1 d1
          obtain ⟨a, ha⟩ : ∃ a, M.calls.getD q (0, false) = a := ⟨_, rfl⟩
          obtain ⟨a', ha'⟩ : ∃ a', M'.calls.getD q (0, false) = a' := ⟨_, rfl⟩
          rw [ha] at c0 c1; rw [ha'] at d0 d1
          obtain ⟨s0, t0⟩ := a
          obtain ⟨s0', t0'⟩ := a'
          dsimp only at c0 c1 d0 d1
          have HA := Lib.hid ha; have HA' := Lib.hid ha'
          have q0 : (0 : Int) ≤ (q : Int) := by omega
          have q1 : (q : Int) < (M.calls.length : Int) := by omega
          have q2 : (q : Int) < (M'.calls.length : Int) := by omega
          clear hR hR' hcell hcell' a0 a1 a0' a1' hds hds' hlt' ha ha'
          by_cases hne : (s0, t0) = (s0', t0')
          · have hneq : ∀ W : World, (binOp .neq 39 (.agg #[.int .i64 s0, .bool t0]) (.agg #[.int .i64 s0', .bool t0'])).run Tryd.prog W = .ok (.bool false) W := fun W => by rw [neq_act, decide_eq_true hne]; rfl
            have HNE := Lib.hid hne; clear hne
            go_wp2_with fail
            go_quiet (fail)
            go_wp2_with fail
            exact ⟨⟨q + 1, by omega, by go_num, fun k hk => by
              rcases Nat.lt_succ_iff_lt_or_eq.1 hk with h | rfl
              · exact HPRQ.out k h
              · exact HA.out.trans (HNE.out.trans HA'.out.symm), by repeat' (first | (with_reducible assumption) | (with_reducible exact Below.refl _ _) | (with_reducible refine Below.alloc ?_ ?_ _) | (with_reducible refine Bk.drewN_ ?_ _) | (with_reducible refine Below.drew ?_) | (with_reducible refine Below.setCell ?_ ?_ _) | go_size)⟩, by simp [intOf]; omega⟩
          · obtain rfl := NO.out (fun h => hne (by rw [← HA.out, ← HA'.out, h]))
            have hneq : ∀ W : World, (binOp .neq 39 (.agg #[.int .i64 s0, .bool t0]) (.agg #[.int .i64 s0', .bool t0'])).run Tryd.prog W = .ok (.bool true) W := fun W => by rw [neq_act, decide_eq_false hne]; rfl
            clear hne
            go_wp2_with fail
            go_quiet (fail)
            go_wp2_with fail
            go_ret
            exact ⟨rfl, by repeat' (first | (with_reducible assumption) | (with_reducible exact Below.refl _ _) | (with_reducible refine Below.alloc ?_ ?_ _) | (with_reducible refine Bk.drewN_ ?_ _) | (with_reducible refine Below.drew ?_) | (with_reducible refine Below.setCell ?_ ?_ _) | go_size)⟩
        · obtain rfl : q = M.calls.length := by omega
          obtain rfl : true = v := by
            rw [← HV.out]; symm
            exact decide_eq_true (mach_eq E0.out E1.out E2.out (of_decide_eq_true HV0.out) (ext_getD E10.out [] HPRE.out) (ext_getD E11.out (0, false) HPRQ.out) E3.out E4.out (of_decide_eq_true HV1.out) (of_decide_eq_true HV2.out))
          go_wp2_with fail
          go_ret
          exact ⟨rfl, hB_wq⟩
end Go.Proofs.YteenmpjjaheggaaDoor
