/- The walk of the debugger's Finish. -/
import Derived.Test.YtfpcblgkcbfdoaaDoorDbY
set_option linter.unusedVariables false
set_option linter.unusedSimpArgs false
set_option maxRecDepth 100000
namespace Bk
/-- How Finish goes: N steps after which there are as many activations; then the fuel is out, or a step fails, or an activation has gone. -/
def Fin (code : Prg) (M : Mach) (a most j N : Nat) (ee : Int) : Prop :=
  N ≤ most ∧ (∀ i, i < N → te code M (j + i) = 0 ∧ ¬ (tr code M (j + i + 1)).calls.length < a) ∧
  ((N = most ∧ ee = 18) ∨ (N < most ∧ te code M (j + N) = ee ∧ ee ≠ 0) ∨ (N < most ∧ te code M (j + N) = 0 ∧ (tr code M (j + N + 1)).calls.length < a ∧ ee = 0))
theorem fin_any (code : Prg) (M : Mach) (a : Nat) : ∀ most j, ∃ N ee, Fin code M a most j N ee
  | 0, j => ⟨0, 18, Nat.le_refl _, fun i hi => absurd hi (Nat.not_lt_zero _), .inl ⟨rfl, rfl⟩⟩
  | s + 1, j => by
    by_cases h0 : te code M j = 0
    · by_cases h1 : (tr code M (j + 1)).calls.length < a
      · exact ⟨0, 0, Nat.zero_le _, fun i hi => absurd hi (Nat.not_lt_zero _), .inr (.inr ⟨Nat.succ_pos _, h0, h1, rfl⟩)⟩
      · obtain ⟨N, ee, hN, hlt, hst⟩ := fin_any code M a s (j + 1)
        have sh : ∀ i, j + (i + 1) = j + 1 + i := fun i => by omega
        refine ⟨N + 1, ee, by omega, ?_, ?_⟩
        · intro i hi
          rcases i with _ | i
          · exact ⟨h0, h1⟩
          · rw [sh]; exact hlt i (by omega)
        · rw [sh]
          rcases hst with ⟨h, h'⟩ | ⟨h, h'⟩ | ⟨h, h'⟩
          · exact .inl ⟨by omega, h'⟩
          · exact .inr (.inl ⟨by omega, h'⟩)
          · exact .inr (.inr ⟨by omega, h'⟩)
    · exact ⟨0, te code M j, Nat.zero_le _, fun i hi => absurd hi (Nat.not_lt_zero _), .inr (.inl ⟨Nat.succ_pos _, rfl, h0⟩)⟩
end Bk
namespace Go.Proofs.YtfpcblgkcbfdoaaDoor
open Go.RowKit Bk
theorem _root_.Bk.DAt.calls {w : World} {P : Pl} {A : Option Addr} {n cap : Nat} {im : Img} {M : Mach} {j : Nat} (hX : VFx w P A n cap im) (hA : DAt w P im.code M j) : ∃ Ac cc, w.cell? ⟨P.b, 23, none⟩ = some (.slice Ac (tr im.code M j).calls.length cc) := by
  obtain ⟨⟨vm, vs, vc, vi, vo, sv, h⟩, hr⟩ := hA
  obtain ⟨b, tt, pre, post, off, gm, gs, fx⟩ := P
  obtain ⟨hpre, hoff, hv⟩ := hX
  dsimp only at hpre hoff; subst hpre hoff
  obtain ⟨Ac, cc, hvc, _⟩ := h.l.2.1
  exact ⟨Ac, cc, by have := h.c20; rw [hvc] at this; exact this⟩
set_option maxHeartbeats 4000000 in
theorem c_FinishState {w : World} {P : Pl} {A : Option Addr} {n cap : Nat} {im : Img} {M : Mach} {J j : Nat} (hX : VFx w P A n cap im) (hE : VEnv im M J) (hJ : j ≤ J) (hj : j ≤ 1000000) (x : Int) (hA : DAt w P im.code M j) (h0 : (tr im.code M j).calls.length = 0) :
    Calls Tryd.prog 27 #[.pointer (some ⟨P.b, 0, none⟩), .int .i64 x] w fun e w' => e = .returned (.int .i64 20) ∧ Below w.heap.size w w' := by
  have HX := Lib.hid hX; have HE := Lib.hid hE; have HA := Lib.hid hA
  obtain ⟨b, hb⟩ : ∃ b, P.b = b := ⟨_, rfl⟩
  have e28 := DAt.time hX hA
  obtain ⟨Ac, cc, e23⟩ := DAt.calls hX hA
  have hlb := hA.lt
  rw [hb] at e28 e23 hlb ⊢
  obtain ⟨cl, hcl⟩ : ∃ cl, (tr im.code M j).calls.length = cl := ⟨_, rfl⟩
  rw [hcl] at e23 h0
  subst h0
  clear hX hE hA hcl hb
  go_enter Tryd.func27, Tryd.ntmps27
  go_upto_region 3 with fail
  refine wp_region_held_drew (S := fun W => Below w.heap.size w W) (by kernel_rfl) ((Below.refl _ _).drew) (fun hH => ?_)
  refine wpAnyH_take (i := 0) (v := ?_) rfl (by kernel_rfl) (by kernel_rfl) (by kernel_rfl) (fun _ _ _ h => h) (Or.inl ⟨by rfl, ?hy⟩) hH ?_
  case hy => (intro w9_ hS9; clear hS9; go_simp; try with_reducible rfl)
  (try simp only [List.getElem_toArray, List.getElem_cons_zero, List.getElem_cons_succ, Act.put, List.setIfInBounds_toArray, List.set_cons_zero, List.set_cons_succ])
  refine wpAnyH_take (i := 1) (v := ?_) rfl (by kernel_rfl) (by kernel_rfl) (by kernel_rfl) (fun _ _ _ h => h) (Or.inl ⟨by rfl, ?hy⟩) hH ?_
  case hy => (intro w9_ hS9; clear hS9; go_simp; try with_reducible rfl)
  (try simp only [List.getElem_toArray, List.getElem_cons_zero, List.getElem_cons_succ, Act.put, List.setIfInBounds_toArray, List.set_cons_zero, List.set_cons_succ])
  refine wpAnyH_take (i := 2) (v := ?_) rfl (by kernel_rfl) (by kernel_rfl) (by kernel_rfl) (fun _ _ _ h => h) (Or.inl ⟨by rfl, ?hy⟩) hH ?_
  case hy => (intro w9_ hS9; clear hS9; go_simp; try with_reducible rfl)
  (try simp only [List.getElem_toArray, List.getElem_cons_zero, List.getElem_cons_succ, Act.put, List.setIfInBounds_toArray, List.set_cons_zero, List.set_cons_succ])
  refine wpAnyH_take (i := 3) (v := ?_) rfl (by kernel_rfl) (by kernel_rfl) (by kernel_rfl) (fun _ _ _ h => h) (Or.inl ⟨by rfl, ?hy⟩) hH ?_
  case hy => (intro w9_ hS9; clear hS9; go_simp; try with_reducible rfl)
  (try simp only [List.getElem_toArray, List.getElem_cons_zero, List.getElem_cons_succ, Act.put, List.setIfInBounds_toArray, List.set_cons_zero, List.set_cons_succ])
  refine wpAnyH_take (i := 4) (v := ?_) rfl (by kernel_rfl) (by kernel_rfl) (by kernel_rfl) (fun _ _ _ h => h) (Or.inl ⟨by rfl, ?hy⟩) hH ?_
  case hy => (intro w9_ hS9; have T9 : w9_.cell? ⟨b, 23, none⟩ = some (.slice Ac 0 cc) := (hS9.cell (p := ⟨b, 23, none⟩) hlb).trans e23; clear hS9; go_simp; try with_reducible rfl)
  (try simp only [List.getElem_toArray, List.getElem_cons_zero, List.getElem_cons_succ, Act.put, List.setIfInBounds_toArray, List.set_cons_zero, List.set_cons_succ])
  refine wpAnyH_take (i := 5) (v := ?_) rfl (by kernel_rfl) (by kernel_rfl) (by kernel_rfl) (fun _ _ _ h => h) (Or.inl ⟨by rfl, ?hy⟩) hH ?_
  case hy => (intro w9_ hS9; clear hS9; go_simp; try with_reducible rfl)
  (try simp only [List.getElem_toArray, List.getElem_cons_zero, List.getElem_cons_succ, Act.put, List.setIfInBounds_toArray, List.set_cons_zero, List.set_cons_succ])
  refine wpAnyH_take (i := 6) (v := ?_) rfl (by kernel_rfl) (by kernel_rfl) (by kernel_rfl) (fun _ _ _ h => h) (Or.inl ⟨by rfl, ?hy⟩) hH ?_
  case hy => (intro w9_ hS9; clear hS9; go_simp; try with_reducible rfl)
  (try simp only [List.getElem_toArray, List.getElem_cons_zero, List.getElem_cons_succ, Act.put, List.setIfInBounds_toArray, List.set_cons_zero, List.set_cons_succ])
  refine wpAnyH_take (i := 7) (v := ?_) rfl (by kernel_rfl) (by kernel_rfl) (by kernel_rfl) (fun _ _ _ h => h) (Or.inl ⟨by rfl, ?hy⟩) hH ?_
  case hy => (intro w9_ hS9; clear hS9; go_simp; try with_reducible rfl)
  (try simp only [List.getElem_toArray, List.getElem_cons_zero, List.getElem_cons_succ, Act.put, List.setIfInBounds_toArray, List.set_cons_zero, List.set_cons_succ])
  refine wpAnyH_take (i := 8) (v := ?_) rfl (by kernel_rfl) (by kernel_rfl) (by kernel_rfl) (fun _ _ _ h => h) (Or.inl ⟨by rfl, ?hy⟩) hH ?_
  case hy => (intro w9_ hS9; clear hS9; go_simp; try with_reducible rfl)
  (try simp only [List.getElem_toArray, List.getElem_cons_zero, List.getElem_cons_succ, Act.put, List.setIfInBounds_toArray, List.set_cons_zero, List.set_cons_succ])
  refine wpAnyH_take (i := 9) (v := ?_) rfl (by kernel_rfl) (by kernel_rfl) (by kernel_rfl) (fun _ _ _ h => h) (Or.inl ⟨by rfl, ?hy⟩) hH ?_
  case hy => (intro w9_ hS9; have T9 : w9_.cell? ⟨b, 28, none⟩ = some (.int .i64 j) := (hS9.cell (p := ⟨b, 28, none⟩) hlb).trans e28; clear hS9; go_simp; try with_reducible rfl)
  (try simp only [List.getElem_toArray, List.getElem_cons_zero, List.getElem_cons_succ, Act.put, List.setIfInBounds_toArray, List.set_cons_zero, List.set_cons_succ])
  refine wpAnyH_take (i := 10) (v := ?_) rfl (by kernel_rfl) (by kernel_rfl) (by kernel_rfl) (fun _ _ _ h => h) (Or.inl ⟨by rfl, ?hy⟩) hH ?_
  case hy => (intro w9_ hS9; clear hS9; go_simp; try with_reducible rfl)
  (try simp only [List.getElem_toArray, List.getElem_cons_zero, List.getElem_cons_succ, Act.put, List.setIfInBounds_toArray, List.set_cons_zero, List.set_cons_succ])
  refine wpAnyH_take (i := 11) (v := ?_) rfl (by kernel_rfl) (by kernel_rfl) (by kernel_rfl) (fun _ _ _ h => h) (Or.inl ⟨by rfl, ?hy⟩) hH ?_
  case hy => (intro w9_ hS9; clear hS9; go_simp; try with_reducible rfl)
  (try simp only [List.getElem_toArray, List.getElem_cons_zero, List.getElem_cons_succ, Act.put, List.setIfInBounds_toArray, List.set_cons_zero, List.set_cons_succ])
  refine wpAnyH_done (by kernel_rfl) ?_ _
  go_wp2_with fail
  go_ret
  exact ⟨rfl, hH⟩
set_option maxHeartbeats 8000000 in
theorem c_FinishAny {w : World} {P : Pl} {A : Option Addr} {n cap : Nat} {im : Img} {M : Mach} {J j : Nat} (hX : VFx w P A n cap im) (hE : VEnv im M J) (hJ : j ≤ J) (hj : j ≤ 1000000) {most N : Nat} {ee : Int} {j' : Nat} (hA : DAt w P im.code M j) (h0 : 0 < (tr im.code M j).calls.length) (hmJ : j + most ≤ J) (hm : most ≤ 1000000) (hF : Fin im.code M (tr im.code M j).calls.length most j N ee) (hj' : (ee = 0 → j' = j + N + 1) ∧ (ee ≠ 0 → j' = j)) :
    Calls Tryd.prog 27 #[.pointer (some ⟨P.b, 0, none⟩), .int .i64 (most : Int)] w fun e w' => e = .returned (.int .i64 ee) ∧ DAt w' P im.code M j' ∧ Fr P.O w w' := by
  have HX := Lib.hid hX; have HE := Lib.hid hE; have HA := Lib.hid hA
  obtain ⟨b, hb⟩ : ∃ b, P.b = b := ⟨_, rfl⟩
  have e28 := DAt.time hX hA
  obtain ⟨Ac, cc, e23⟩ := DAt.calls hX hA
  have hlb := hA.lt
  rw [hb] at e28 e23 hlb ⊢
  obtain ⟨cl, hcl⟩ : ∃ cl, (tr im.code M j).calls.length = cl := ⟨_, rfl⟩
  rw [hcl] at e23 h0 hF
  obtain ⟨hNm, hlt, hst⟩ := hF
  have hclb : cl ≤ 1000000 := by have := (hE.bd j hJ).cl; omega
  have HRJ := Lib.hid hA.2
  have HCL := Lib.hid hcl; have HLT := Lib.hid hlt; have HST := Lib.hid hst; have HJ' := Lib.hid hj'; have HB := Lib.hid hb
  have c0 : ((cl : Int) == 0) = false := by simp; omega
  clear hX hE hA hcl hlt hst hj' hb
  go_enter Tryd.func27, Tryd.ntmps27
  go_upto_region 3 with fail
  refine wp_region_held_drew (S := fun W => Below w.heap.size w W) (by kernel_rfl) ((Below.refl _ _).drew) (fun hH => ?_)
  refine wpAnyH_take (i := 0) (v := ?_) rfl (by kernel_rfl) (by kernel_rfl) (by kernel_rfl) (fun _ _ _ h => h) (Or.inl ⟨by rfl, ?hy⟩) hH ?_
  case hy => (intro w9_ hS9; clear hS9; go_simp; try with_reducible rfl)
  (try simp only [List.getElem_toArray, List.getElem_cons_zero, List.getElem_cons_succ, Act.put, List.setIfInBounds_toArray, List.set_cons_zero, List.set_cons_succ])
  refine wpAnyH_take (i := 1) (v := ?_) rfl (by kernel_rfl) (by kernel_rfl) (by kernel_rfl) (fun _ _ _ h => h) (Or.inl ⟨by rfl, ?hy⟩) hH ?_
  case hy => (intro w9_ hS9; clear hS9; go_simp; try with_reducible rfl)
  (try simp only [List.getElem_toArray, List.getElem_cons_zero, List.getElem_cons_succ, Act.put, List.setIfInBounds_toArray, List.set_cons_zero, List.set_cons_succ])
  refine wpAnyH_take (i := 2) (v := ?_) rfl (by kernel_rfl) (by kernel_rfl) (by kernel_rfl) (fun _ _ _ h => h) (Or.inl ⟨by rfl, ?hy⟩) hH ?_
  case hy => (intro w9_ hS9; clear hS9; go_simp; try with_reducible rfl)
  (try simp only [List.getElem_toArray, List.getElem_cons_zero, List.getElem_cons_succ, Act.put, List.setIfInBounds_toArray, List.set_cons_zero, List.set_cons_succ])
  refine wpAnyH_take (i := 3) (v := ?_) rfl (by kernel_rfl) (by kernel_rfl) (by kernel_rfl) (fun _ _ _ h => h) (Or.inl ⟨by rfl, ?hy⟩) hH ?_
  case hy => (intro w9_ hS9; clear hS9; go_simp; try with_reducible rfl)
  (try simp only [List.getElem_toArray, List.getElem_cons_zero, List.getElem_cons_succ, Act.put, List.setIfInBounds_toArray, List.set_cons_zero, List.set_cons_succ])
  refine wpAnyH_take (i := 4) (v := ?_) rfl (by kernel_rfl) (by kernel_rfl) (by kernel_rfl) (fun _ _ _ h => h) (Or.inl ⟨by rfl, ?hy⟩) hH ?_
  case hy => (intro w9_ hS9; have T9 : w9_.cell? ⟨b, 23, none⟩ = some (.slice Ac cl cc) := (hS9.cell (p := ⟨b, 23, none⟩) hlb).trans e23; clear hS9; go_simp; try with_reducible rfl)
  (try simp only [List.getElem_toArray, List.getElem_cons_zero, List.getElem_cons_succ, Act.put, List.setIfInBounds_toArray, List.set_cons_zero, List.set_cons_succ])
  refine wpAnyH_take (i := 5) (v := ?_) rfl (by kernel_rfl) (by kernel_rfl) (by kernel_rfl) (fun _ _ _ h => h) (Or.inl ⟨by rfl, ?hy⟩) hH ?_
  case hy => (intro w9_ hS9; clear hS9; go_simp; try with_reducible rfl)
  (try simp only [List.getElem_toArray, List.getElem_cons_zero, List.getElem_cons_succ, Act.put, List.setIfInBounds_toArray, List.set_cons_zero, List.set_cons_succ])
  refine wpAnyH_take (i := 6) (v := ?_) rfl (by kernel_rfl) (by kernel_rfl) (by kernel_rfl) (fun _ _ _ h => h) (Or.inl ⟨by rfl, ?hy⟩) hH ?_
  case hy => (intro w9_ hS9; clear hS9; go_simp; try with_reducible rfl)
  (try simp only [List.getElem_toArray, List.getElem_cons_zero, List.getElem_cons_succ, Act.put, List.setIfInBounds_toArray, List.set_cons_zero, List.set_cons_succ])
  refine wpAnyH_take (i := 7) (v := ?_) rfl (by kernel_rfl) (by kernel_rfl) (by kernel_rfl) (fun _ _ _ h => h) (Or.inl ⟨by rfl, ?hy⟩) hH ?_
  case hy => (intro w9_ hS9; clear hS9; go_simp; try with_reducible rfl)
  (try simp only [List.getElem_toArray, List.getElem_cons_zero, List.getElem_cons_succ, Act.put, List.setIfInBounds_toArray, List.set_cons_zero, List.set_cons_succ])
  refine wpAnyH_take (i := 8) (v := ?_) rfl (by kernel_rfl) (by kernel_rfl) (by kernel_rfl) (fun _ _ _ h => h) (Or.inl ⟨by rfl, ?hy⟩) hH ?_
  case hy => (intro w9_ hS9; clear hS9; go_simp; try with_reducible rfl)
  (try simp only [List.getElem_toArray, List.getElem_cons_zero, List.getElem_cons_succ, Act.put, List.setIfInBounds_toArray, List.set_cons_zero, List.set_cons_succ])
  refine wpAnyH_take (i := 9) (v := ?_) rfl (by kernel_rfl) (by kernel_rfl) (by kernel_rfl) (fun _ _ _ h => h) (Or.inl ⟨by rfl, ?hy⟩) hH ?_
  case hy => (intro w9_ hS9; have T9 : w9_.cell? ⟨b, 28, none⟩ = some (.int .i64 j) := (hS9.cell (p := ⟨b, 28, none⟩) hlb).trans e28; clear hS9; go_simp; try with_reducible rfl)
  (try simp only [List.getElem_toArray, List.getElem_cons_zero, List.getElem_cons_succ, Act.put, List.setIfInBounds_toArray, List.set_cons_zero, List.set_cons_succ])
  refine wpAnyH_take (i := 10) (v := ?_) rfl (by kernel_rfl) (by kernel_rfl) (by kernel_rfl) (fun _ _ _ h => h) (Or.inl ⟨by rfl, ?hy⟩) hH ?_
  case hy => (intro w9_ hS9; clear hS9; go_simp; try with_reducible rfl)
  (try simp only [List.getElem_toArray, List.getElem_cons_zero, List.getElem_cons_succ, Act.put, List.setIfInBounds_toArray, List.set_cons_zero, List.set_cons_succ])
  refine wpAnyH_take (i := 11) (v := ?_) rfl (by kernel_rfl) (by kernel_rfl) (by kernel_rfl) (fun _ _ _ h => h) (Or.inl ⟨by rfl, ?hy⟩) hH ?_
  case hy => (intro w9_ hS9; clear hS9; go_simp; try with_reducible rfl)
  (try simp only [List.getElem_toArray, List.getElem_cons_zero, List.getElem_cons_succ, Act.put, List.setIfInBounds_toArray, List.set_cons_zero, List.set_cons_succ])
  refine wpAnyH_done (by kernel_rfl) ?_ _
  have HX1 := Lib.hid (HX.out.next hH); have HA1 := Lib.hid (HA.out.next hH); have HF1 := Lib.hid (Fr.of (O := P.O) hH)
  clear e23 e28 hH
  go_wp2_with fail
  go_loopw [1, 7] (fun v1 v7 wr => ∃ i : Nat, i ≤ N ∧ v1 = .int .i64 ((most : Int) - (i : Int)) ∧ v7 = .int .i64 18 ∧ DAt wr P im.code M (j + i) ∧ Fr P.O w wr) (fun v _ _ => (intOf v).toNat)
  case atStart => exact ⟨0, Nat.zero_le _, by simp, rfl, HA1.out, HF1.out⟩
  case round =>
    obtain ⟨i, hi, rfl, rfl, ha, hfr⟩ := hrel
    have HXi := Lib.hid (HX.out.fr hfr)
    have HAi := Lib.hid ha; have HFi := Lib.hid hfr
    clear ha hfr
    have hmi : 0 ≤ (most : Int) - (i : Int) := by omega
    by_cases h1 : i < N
    · have h2 : (0 : Int) < (most : Int) - (i : Int) := by omega
      have h0' := (HLT.out i h1).1
      have hnc := (HLT.out i h1).2
      have H0 := Lib.hid h0'; have HNC := Lib.hid hnc
      clear h0' hnc
      go_wp2_with fail
      rw [← HB.out]
      refine (c_DStepOk HXi.out HE.out (j := j + i) (by omega) (by omega) HAi.out H0.out).mono ?_
      rintro e w3 ⟨rfl, ha3, hf3⟩
      have HX3 := Lib.hid (HXi.out.fr hf3); have HF3 := Lib.hid (HFi.out.trans hf3); have HA3 := Lib.hid ha3
      obtain ⟨A3, c3, e3⟩ := DAt.calls HX3.out ha3
      have hlb3 := ha3.lt
      obtain ⟨c9, hc9⟩ : ∃ c9, (tr im.code M (j + i + 1)).calls.length = c9 := ⟨_, rfl⟩
      have hn9 := HNC.out
      rw [hc9] at e3 hn9
      rw [HB.out] at e3 hlb3 ⊢
      have hb9 : c9 ≤ 1000000 := by rw [← hc9]; have := (HE.out.bd (j + i + 1) (by omega)).cl; omega
      have hn9' : ¬ (c9 : Int) < (cl : Int) := by omega
      clear ha3 hf3 hc9 hn9
      go_wp2_with fail
      exact ⟨⟨i + 1, by omega, by push_cast; congr 1; omega, rfl, HA3.out, HF3.out⟩, by simp [intOf]; omega⟩
    · obtain rfl : i = N := by omega
      rcases HST.out with ⟨h2, h3⟩ | ⟨h2, h3, h4⟩ | ⟨h2, h3, h4, h5⟩
      · subst h2
        subst h3
        have hmz : (i : Int) - (i : Int) = 0 := by omega
        have hj9 : j' = j := HJ'.out.2 (by decide)
        have HJ9 := Lib.hid hj9
        clear hj9
        go_wp2_with fail
        rw [← HB.out]
        refine (c_moveOk HXi.out HE.out (j := j + i) (t := j) (by omega) (by omega) (by omega) (by omega) HRJ.out HAi.out).mono ?_
        rintro e w3 ⟨rfl, ha3, hf3⟩
        have HA3 := Lib.hid ha3; have HF3 := Lib.hid (HFi.out.trans hf3)
        clear ha3 hf3
        go_wp2_with fail
        go_ret
        exact ⟨rfl, by rw [HJ9.out]; exact HA3.out, HF3.out⟩
      · have h6 : (0 : Int) < (most : Int) - (i : Int) := by omega
        have h7 : (ee != 0) = true := by simpa using h4
        have hj9 : j' = j := HJ'.out.2 h4
        have HJ9 := Lib.hid hj9; have H3 := Lib.hid h3; have H4 := Lib.hid h4
        clear hj9 h3 h4
        go_wp2_with fail
        rw [← HB.out]
        have hs := c_DStepErr HXi.out HE.out (j := j + i) (by omega) HAi.out (by rw [H3.out]; exact H4.out)
        rw [H3.out] at hs
        refine hs.mono ?_
        rintro e w3 ⟨rfl, ha3, hf3⟩
        have HX3 := Lib.hid (HXi.out.fr hf3); have HF3 := Lib.hid (HFi.out.trans hf3); have HA3 := Lib.hid ha3
        clear ha3 hf3 hs
        go_wp2_with fail
        refine (c_moveOk HX3.out HE.out (j := j + i) (t := j) (by omega) (by omega) (by omega) (by omega) HRJ.out HA3.out).mono ?_
        rintro e w4 ⟨rfl, ha4, hf4⟩
        have HA4 := Lib.hid ha4; have HF4 := Lib.hid (HF3.out.trans hf4)
        clear ha4 hf4
        go_wp2_with fail
        go_ret
        exact ⟨rfl, by rw [HJ9.out]; exact HA4.out, HF4.out⟩
      · have h6 : (0 : Int) < (most : Int) - (i : Int) := by omega
        have hj9 : j' = j + i + 1 := HJ'.out.1 h5
        have HJ9 := Lib.hid hj9; have H3 := Lib.hid h3; have H4 := Lib.hid h4
        subst h5
        clear hj9 h3 h4
        go_wp2_with fail
        rw [← HB.out]
        refine (c_DStepOk HXi.out HE.out (j := j + i) (by omega) (by omega) HAi.out H3.out).mono ?_
        rintro e w3 ⟨rfl, ha3, hf3⟩
        have HX3 := Lib.hid (HXi.out.fr hf3); have HF3 := Lib.hid (HFi.out.trans hf3); have HA3 := Lib.hid ha3
        obtain ⟨A3, c3, e3⟩ := DAt.calls HX3.out ha3
        have hlb3 := ha3.lt
        obtain ⟨c9, hc9⟩ : ∃ c9, (tr im.code M (j + i + 1)).calls.length = c9 := ⟨_, rfl⟩
        have hn9 := H4.out
        rw [hc9] at e3 hn9
        rw [HB.out] at e3 hlb3 ⊢
        have hn9' : (c9 : Int) < (cl : Int) := by omega
        have hb9 : c9 ≤ 1000000 := by omega
        clear ha3 hf3 hc9 hn9
        go_wp2_with fail
        go_ret
        exact ⟨rfl, by rw [HJ9.out]; exact HA3.out, HF3.out⟩
end Go.Proofs.YtfpcblgkcbfdoaaDoor
