/- The walk of the law BreakpointTests. -/
import Derived.Test.YtiejkfomadaakaaDoorBpZ
set_option linter.unusedVariables false
set_option linter.unusedSimpArgs false
set_option maxRecDepth 100000
namespace Go.Proofs.YtiejkfomadaakaaDoor
open Go.RowKit Bk
set_option maxHeartbeats 8000000 in
theorem c_lawBreakpointTests (M : Mach) (vm vs vc vi vo : Value) (sv : List Value) (w : World) (hL : MLs w (· < w.heap.size) M vm vs vc vi vo sv) (hTab : TableAt w) (a : Int) (ha : I64 a) (b : Int) (hb : I64 b) :
    Calls Tryd.prog 6 #[.agg (mcells M vm vs vc vi vo).toArray, .int .i64 a, .int .i64 b] w fun e w' => e = .returned (.bool true) ∧ Below w.heap.size w w' := by
  have hef := fun fn first cap w => run_eql_func fn first cap w
  obtain ⟨b0, hb0⟩ : ∃ b0, decide (M.pc = a) = b0 := ⟨_, rfl⟩
  obtain ⟨b1, hb1⟩ : ∃ b1, (decide (0 ≤ a) && decide (a < (M.m.length : Int)) && (M.m.getD a.toNat 0 != b)) = b1 := ⟨_, rfl⟩
  have HB0 := Lib.hid hb0; have HB1 := Lib.hid hb1
  have HT0 : Hid (Tst.holds ⟨0, a, 0⟩ M = b0) := Lib.hid (by rw [← hb0]; rfl)
  have HT1 : Hid (Tst.holds ⟨1, a, b⟩ M = b1) := Lib.hid (by rw [← hb1]; rfl)
  have HT := Lib.hid hTab; have HL := Lib.hid hL
  clear hTab hL hb0 hb1
  go_enter Tryd.func6, Tryd.ntmps6
  go_upto_region 1 with fail
  refine wp_nameY ?_
  intro w1 hw1
  have hB_w1 : Below w.heap.size w w1 := by rw [hw1]; exact (by repeat' (first | (with_reducible assumption) | (with_reducible exact Below.refl _ _) | (with_reducible refine Below.alloc ?_ ?_ _) | (with_reducible refine Bk.drewN_ ?_ _) | (with_reducible refine Below.drew ?_) | (with_reducible refine Below.setCell ?_ ?_ _) | go_size))
  have KM : Blk w1 w.heap.size 30 (mcells M vm vs vc vi vo).toArray := by rw [hw1]; exact (by repeat' (first | with_reducible assumption | (refine Blk.new' ?_ _ _; simp; done) | refine Blk.alloc ?_ _ | refine Blk.drewN ?_ _ | refine Blk.drew ?_))
  have HM := Lib.hid ((HL.out.next hB_w1).at_ KM)
  have HK := Lib.hid KM
  clear hw1 KM
  go_wp2_with fail
  refine (c_awake34 _ (HT.out.next hB_w1)).mono ?_
  rintro e w2 ⟨rfl, hb2⟩
  have hB_w2 := hB_w1.next hb2
  replace HM := Lib.hid (HM.out.next hb2)
  replace HK := Lib.hid (HK.out.next hb2)
  have z2 := hb2.size
  clear hb2
  obtain ⟨Am, cm, hvm, _⟩ := HL.out.m
  have c18 : w2.cell? ⟨w.heap.size, 18, none⟩ = some (.slice Am M.m.length cm) := by rw [HK.out.cell 18, List.getElem?_toArray, (mc_get HL.out.rl).2.2.2.1, hvm]
  have zk : w.heap.size < w2.heap.size := HK.out.lt
  clear hvm
  by_cases h200 : 200 < M.m.length
  · have h200' : (200 : Int) < (M.m.length : Int) := by omega
    go_wp2_with fail
    go_ret
    exact ⟨rfl, hB_w2⟩
  have h200' : ¬ (200 : Int) < (M.m.length : Int) := by omega
  have hml : M.m.length ≤ 1000000 := by omega
  go_wp2_with fail
  clear c18
  refine (c_AtPC w2 a).mono ?_
  rintro e w3 ⟨rfl, hl3, hc3, hb3⟩
  have hB_w3 := hB_w2.next hb3
  replace HM := Lib.hid (HM.out.next hb3)
  have z3 := hb3.size
  have HC3 := Lib.hid hc3
  clear hc3 hb3
  go_wp2_with fail
  refine (c_Changed w3 a b).mono ?_
  rintro e w4 ⟨rfl, hl4, hc4, hd4, hb4⟩
  have hB_w4 := hB_w3.next hb4
  replace HM := Lib.hid (HM.out.next hb4)
  have HL4 := Lib.hid (HL.out.next hB_w4)
  have HCA := Lib.hid ((hb4.cell (p := ⟨w2.heap.size, 0, none⟩) hl3).trans HC3.out)
  have HCB := Lib.hid hc4; have HCC := Lib.hid hd4
  have z4 := hb4.size
  clear hc4 hd4 hb4
  go_wp2_with fail
  refine wp_region_held_drew (S := fun W => Below w4.heap.size w4 W) (by kernel_rfl) ((Below.refl _ _).drew) (fun hH => ?_)
  refine wpAnyH_take (i := 0) (v := ?_) rfl (by kernel_rfl) (by kernel_rfl) (by kernel_rfl) (fun _ _ _ h => h) (Or.inl ⟨by rfl, ?hy⟩) hH ?_
  case hy => (intro w9_ hS9; clear hS9; go_simp; try with_reducible rfl)
  (try simp only [List.getElem_toArray, List.getElem_cons_zero, List.getElem_cons_succ, Act.put, List.setIfInBounds_toArray, List.set_cons_zero, List.set_cons_succ])
  refine wpAnyH_take (i := 1) (v := _) rfl (by kernel_rfl) (by kernel_rfl) (by kernel_rfl) (fun _ _ _ h => h) (Or.inl ⟨by rfl, yields_load 30 (x := .tmp 3) rfl rfl (fun W hW => load_mach (HM.out.next hW))⟩) hH ?_
  (try simp only [List.getElem_toArray, List.getElem_cons_zero, List.getElem_cons_succ, Act.put, List.setIfInBounds_toArray, List.set_cons_zero, List.set_cons_succ])
  refine wpAnyH_take (i := 3) (v := ?_) rfl (by kernel_rfl) (by kernel_rfl) (by kernel_rfl) (fun _ _ _ h => h) (Or.inl ⟨by rfl, ?hy⟩) hH ?_
  case hy => (intro w9_ hS9; clear hS9; go_simp; try with_reducible rfl)
  (try simp only [List.getElem_toArray, List.getElem_cons_zero, List.getElem_cons_succ, Act.put, List.setIfInBounds_toArray, List.set_cons_zero, List.set_cons_succ])
  refine wpAnyH_take (i := 4) (v := ?_) rfl (by kernel_rfl) (by kernel_rfl) (by kernel_rfl) (fun _ _ _ h => h) (Or.inl ⟨by rfl, ?hy⟩) hH ?_
  case hy => (intro w9_ hS9; clear hS9; go_simp; try with_reducible rfl)
  (try simp only [List.getElem_toArray, List.getElem_cons_zero, List.getElem_cons_succ, Act.put, List.setIfInBounds_toArray, List.set_cons_zero, List.set_cons_succ])
  refine wpAnyH_take (i := 5) (v := _) rfl (by kernel_rfl) (by kernel_rfl) (by kernel_rfl) (fun _ _ _ h => h) (Or.inl ⟨by rfl, yields_load 30 (x := .tmp 3) rfl rfl (fun W hW => load_mach (HM.out.next hW))⟩) hH ?_
  (try simp only [List.getElem_toArray, List.getElem_cons_zero, List.getElem_cons_succ, Act.put, List.setIfInBounds_toArray, List.set_cons_zero, List.set_cons_succ])
  refine wpAnyH_ready (rs := [2]) (by kernel_rfl) (by simp) ?_
  refine AllReadyH.cons rfl (fun K hK => ?_) (AllReadyH.nil)
  go_simp
  have hs := c_AtPC1 (HL4.out.next hH) (q := a) (bq := w2.heap.size) (by have := hH.size; omega) ((hH.cell (p := ⟨w2.heap.size, 0, none⟩) (show w2.heap.size < w4.heap.size by omega)).trans HCA.out)
  rw [HB0.out] at hs
  refine (hs).mono ?_
  rintro e w5 ⟨rfl, hb5⟩
  replace hH := hH.next hb5
  clear hb5
  refine hK.out _ _ hH (fun _ => ?_)
  clear hK
  (try simp only [List.getElem_toArray, List.getElem_cons_zero, List.getElem_cons_succ, Act.put, List.setIfInBounds_toArray, List.set_cons_zero, List.set_cons_succ])
  refine wpAnyH_ready (rs := [6]) (by kernel_rfl) (by simp) ?_
  refine AllReadyH.cons rfl (fun K hK => ?_) (AllReadyH.nil)
  go_simp
  have hs := c_own (HL4.out.next hH) hml 0 (by omega) a 0 ha
  rw [HT0.out] at hs
  refine (hs).mono ?_
  rintro e w6 ⟨rfl, hb6⟩
  replace hH := hH.next hb6
  clear hb6
  refine hK.out _ _ hH (fun _ => ?_)
  clear hK
  (try simp only [List.getElem_toArray, List.getElem_cons_zero, List.getElem_cons_succ, Act.put, List.setIfInBounds_toArray, List.set_cons_zero, List.set_cons_succ])
  refine wpAnyH_take (i := 7) (v := ?_) rfl (by kernel_rfl) (by kernel_rfl) (by kernel_rfl) (fun _ _ _ h => h) (Or.inl ⟨by rfl, ?hy⟩) hH ?_
  case hy => (intro w9_ hS9; clear hS9; go_simp; try with_reducible rfl)
  (try simp only [List.getElem_toArray, List.getElem_cons_zero, List.getElem_cons_succ, Act.put, List.setIfInBounds_toArray, List.set_cons_zero, List.set_cons_succ])
  refine wpAnyH_take (i := 8) (v := ?_) rfl (by kernel_rfl) (by kernel_rfl) (by kernel_rfl) (fun _ _ _ h => h) (Or.inl ⟨by rfl, ?hy⟩) hH ?_
  case hy => (intro w9_ hS9; clear hS9; go_simp; try with_reducible rfl)
  (try simp only [List.getElem_toArray, List.getElem_cons_zero, List.getElem_cons_succ, Act.put, List.setIfInBounds_toArray, List.set_cons_zero, List.set_cons_succ])
  refine wpAnyH_take (i := 9) (v := ?_) rfl (by kernel_rfl) (by kernel_rfl) (by kernel_rfl) (fun _ _ _ h => h) (Or.inl ⟨by rfl, ?hy⟩) hH ?_
  case hy => (intro w9_ hS9; clear hS9; go_simp; try with_reducible rfl)
  (try simp only [List.getElem_toArray, List.getElem_cons_zero, List.getElem_cons_succ, Act.put, List.setIfInBounds_toArray, List.set_cons_zero, List.set_cons_succ])
  refine wpAnyH_take (i := 10) (v := _) rfl (by kernel_rfl) (by kernel_rfl) (by kernel_rfl) (fun _ _ _ h => h) (Or.inl ⟨by rfl, yields_load 30 (x := .tmp 3) rfl rfl (fun W hW => load_mach (HM.out.next hW))⟩) hH ?_
  (try simp only [List.getElem_toArray, List.getElem_cons_zero, List.getElem_cons_succ, Act.put, List.setIfInBounds_toArray, List.set_cons_zero, List.set_cons_succ])
  refine wpAnyH_take (i := 12) (v := ?_) rfl (by kernel_rfl) (by kernel_rfl) (by kernel_rfl) (fun _ _ _ h => h) (Or.inl ⟨by rfl, ?hy⟩) hH ?_
  case hy => (intro w9_ hS9; clear hS9; go_simp; try with_reducible rfl)
  (try simp only [List.getElem_toArray, List.getElem_cons_zero, List.getElem_cons_succ, Act.put, List.setIfInBounds_toArray, List.set_cons_zero, List.set_cons_succ])
  refine wpAnyH_take (i := 13) (v := ?_) rfl (by kernel_rfl) (by kernel_rfl) (by kernel_rfl) (fun _ _ _ h => h) (Or.inl ⟨by rfl, ?hy⟩) hH ?_
  case hy => (intro w9_ hS9; clear hS9; go_simp; try with_reducible rfl)
  (try simp only [List.getElem_toArray, List.getElem_cons_zero, List.getElem_cons_succ, Act.put, List.setIfInBounds_toArray, List.set_cons_zero, List.set_cons_succ])
  refine wpAnyH_take (i := 14) (v := ?_) rfl (by kernel_rfl) (by kernel_rfl) (by kernel_rfl) (fun _ _ _ h => h) (Or.inl ⟨by rfl, ?hy⟩) hH ?_
  case hy => (intro w9_ hS9; clear hS9; go_simp; try with_reducible rfl)
  (try simp only [List.getElem_toArray, List.getElem_cons_zero, List.getElem_cons_succ, Act.put, List.setIfInBounds_toArray, List.set_cons_zero, List.set_cons_succ])
  refine wpAnyH_take (i := 15) (v := _) rfl (by kernel_rfl) (by kernel_rfl) (by kernel_rfl) (fun _ _ _ h => h) (Or.inl ⟨by rfl, yields_load 30 (x := .tmp 3) rfl rfl (fun W hW => load_mach (HM.out.next hW))⟩) hH ?_
  (try simp only [List.getElem_toArray, List.getElem_cons_zero, List.getElem_cons_succ, Act.put, List.setIfInBounds_toArray, List.set_cons_zero, List.set_cons_succ])
  refine wpAnyH_ready (rs := [11]) (by kernel_rfl) (by simp) ?_
  refine AllReadyH.cons rfl (fun K hK => ?_) (AllReadyH.nil)
  go_simp
  have hs := c_Changed1 (HL4.out.next hH) hml (q := a) (r := b) (bq := w3.heap.size) (br := w3.heap.size + 1) (by have := hH.size; omega) ((hH.cell (p := ⟨w3.heap.size, 0, none⟩) (show w3.heap.size < w4.heap.size by omega)).trans HCB.out) (by have := hH.size; omega) ((hH.cell (p := ⟨w3.heap.size + 1, 0, none⟩) (show w3.heap.size + 1 < w4.heap.size by omega)).trans HCC.out)
  rw [HB1.out] at hs
  refine (hs).mono ?_
  rintro e w7 ⟨rfl, hb7⟩
  replace hH := hH.next hb7
  clear hb7
  refine hK.out _ _ hH (fun _ => ?_)
  clear hK
  (try simp only [List.getElem_toArray, List.getElem_cons_zero, List.getElem_cons_succ, Act.put, List.setIfInBounds_toArray, List.set_cons_zero, List.set_cons_succ])
  refine wpAnyH_ready (rs := [16]) (by kernel_rfl) (by simp) ?_
  refine AllReadyH.cons rfl (fun K hK => ?_) (AllReadyH.nil)
  go_simp
  have hs := c_own (HL4.out.next hH) hml 1 (by omega) a b ha
  rw [HT1.out] at hs
  refine (hs).mono ?_
  rintro e w8 ⟨rfl, hb8⟩
  replace hH := hH.next hb8
  clear hb8
  refine hK.out _ _ hH (fun _ => ?_)
  clear hK
  (try simp only [List.getElem_toArray, List.getElem_cons_zero, List.getElem_cons_succ, Act.put, List.setIfInBounds_toArray, List.set_cons_zero, List.set_cons_succ])
  refine wpAnyH_take (i := 17) (v := ?_) rfl (by kernel_rfl) (by kernel_rfl) (by kernel_rfl) (fun _ _ _ h => h) (Or.inl ⟨by rfl, ?hy⟩) hH ?_
  case hy => (intro w9_ hS9; clear hS9; go_simp; try with_reducible rfl)
  (try simp only [List.getElem_toArray, List.getElem_cons_zero, List.getElem_cons_succ, Act.put, List.setIfInBounds_toArray, List.set_cons_zero, List.set_cons_succ])
  refine wpAnyH_take (i := 18) (v := ?_) rfl (by kernel_rfl) (by kernel_rfl) (by kernel_rfl) (fun _ _ _ h => h) (Or.inl ⟨by rfl, ?hy⟩) hH ?_
  case hy => (intro w9_ hS9; clear hS9; go_simp; try with_reducible rfl)
  (try simp only [List.getElem_toArray, List.getElem_cons_zero, List.getElem_cons_succ, Act.put, List.setIfInBounds_toArray, List.set_cons_zero, List.set_cons_succ])
  refine wpAnyH_take (i := 19) (v := ?_) rfl (by kernel_rfl) (by kernel_rfl) (by kernel_rfl) (fun _ _ _ h => h) (Or.inl ⟨by rfl, ?hy⟩) hH ?_
  case hy => (intro w9_ hS9; clear hS9; go_simp; try with_reducible rfl)
  (try simp only [List.getElem_toArray, List.getElem_cons_zero, List.getElem_cons_succ, Act.put, List.setIfInBounds_toArray, List.set_cons_zero, List.set_cons_succ])
  refine wpAnyH_done (by kernel_rfl) ?_ _
  go_wp2_with fail
  go_ret
  exact ⟨by first | rfl | simp, hB_w4.next hH⟩
end Go.Proofs.YtiejkfomadaakaaDoor
