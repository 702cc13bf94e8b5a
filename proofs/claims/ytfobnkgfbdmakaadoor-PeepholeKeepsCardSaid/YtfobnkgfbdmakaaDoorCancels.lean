/- The walks of peephole.Cancels and of the reference's. -/
import Derived.Test.YtfobnkgfbdmakaaDoorPartner
import Derived.Test.YtfobnkgfbdmakaaDoorPeepS
set_option linter.unusedVariables false
set_option linter.unusedSimpArgs false
namespace Go.Proofs.YtfobnkgfbdmakaaDoor
open Go.RowKit Bk

theorem c_control (x : Int) (h0 : 0 ≤ x) (w : World) :
    Calls Tryd.prog 33 #[.int .u8 x] w fun e w' => e = .returned (.bool (ctlB x)) ∧ w = w' := by
  go_enter Tryd.func33, Tryd.ntmps33
  go_wp2
  all_goals (go_ret; exact ⟨ret_bool (by go_tidy; refine Bool.eq_iff_iff.2 ?_; simp_all [ctlB] <;> omega), rfl⟩)

theorem c_control' (x : Int) (h0 : 0 ≤ x) {v : Bool} (h : ctlB x = v) (w : World) :
    Calls Tryd.prog 33 #[.int .u8 x] w fun e w' => e = .returned (.bool v) ∧ w = w' := by
  rw [← h]; exact c_control x h0 w

set_option maxHeartbeats 2000000 in
theorem c_rinv (x : Int) (w : World) :
    Calls Tryd.prog 34 #[.int .u8 x] w fun e w' => e = .returned (.int .u8 (rinv x)) ∧ Below w.heap.size w w' := by
  go_enter Tryd.func34, Tryd.ntmps34
  go_wp2
  go_rounds 7
  all_goals (go_ret; refine ⟨ret_int ?_, by repeat' (first | (with_reducible assumption) | (with_reducible exact Below.refl _ _) | (with_reducible refine Below.alloc ?_ ?_ _) | (with_reducible refine Bk.drewN_ ?_ _) | (with_reducible refine Below.drew ?_) | (with_reducible refine Below.setCell ?_ ?_ _) | go_size)⟩)
  all_goals (go_tidy; simp only [beq_iff_eq, beq_eq_false_iff_ne, ne_eq] at *; first | (subst_vars; rfl) | (unfold rinv; rw [if_neg (by omega), if_neg (by omega), if_neg (by omega), if_neg (by omega), if_neg (by omega), if_neg (by omega), if_neg (by omega), if_neg (by omega), if_neg (by omega), if_neg (by omega), if_neg (by omega), if_neg (by omega)]))

theorem eql_ins (W : World) (op a b c d op' a' b' c' d' : Int) :
    (binOp .eql 23 (.agg #[.int .u8 op, .int .i64 a, .int .i64 b, .int .i64 c, .int .i64 d]) (.agg #[.int .u8 op', .int .i64 a', .int .i64 b', .int .i64 c', .int .i64 d'])).run Tryd.prog W =
      .ok (.bool (decide ((⟨op, a, b, c, d⟩ : Ins) = ⟨op', a', b', c', d'⟩))) W := by
  by_cases e0 : op = op'
  · by_cases e1 : a = a'
    · by_cases e2 : b = b'
      · by_cases e3 : c = c'
        · by_cases e4 : d = d'
          · simp [go_sem, e0, e1, e2, e3, e4]
          · simp [go_sem, e0, e1, e2, e3, e4]
        · simp [go_sem, e0, e1, e2, e3]
      · simp [go_sem, e0, e1, e2]
    · simp [go_sem, e0, e1]
  · simp [go_sem, e0]

set_option maxHeartbeats 2000000 in
theorem c_refCancels (op a b c d op' a' b' c' d' : Int) (h0 : 0 ≤ op) (w : World) :
    Calls Tryd.prog 13 #[.agg #[.int .u8 op, .int .i64 a, .int .i64 b, .int .i64 c, .int .i64 d], .agg #[.int .u8 op', .int .i64 a', .int .i64 b', .int .i64 c', .int .i64 d']] w fun e w' =>
      e = .returned (.bool (refCancels ⟨op, a, b, c, d⟩ ⟨op', a', b', c', d'⟩)) ∧ Below w.heap.size w w' := by
  obtain ⟨v, hv⟩ : ∃ v, ctlB op = v := ⟨_, rfl⟩
  have HV := Lib.hid hv; clear hv
  cases v with
  | true =>
    go_enter Tryd.func13, Tryd.ntmps13
    go_wp2_with (go_at_call 33; ((with_reducible refine (c_control' _ h0 HV.out _).mono ?_); rintro e w' ⟨rfl, rfl⟩))
    go_ret
    exact ⟨ret_bool (by simp [refCancels, HV.out]), by repeat' (first | (with_reducible assumption) | (with_reducible exact Below.refl _ _) | (with_reducible refine Below.alloc ?_ ?_ _) | (with_reducible refine Bk.drewN_ ?_ _) | (with_reducible refine Below.drew ?_) | (with_reducible refine Below.setCell ?_ ?_ _) | go_size)⟩
  | false =>
    go_enter Tryd.func13, Tryd.ntmps13
    go_wp2_with (go_at_call 33; ((with_reducible refine (c_control' _ h0 HV.out _).mono ?_); rintro e w' ⟨rfl, rfl⟩))
    refine (c_rinv _ _).mono ?_
    rintro e w1 ⟨rfl, hb1⟩
    have hB1 : Below w.heap.size w w1 := Below.next (by repeat' (first | (with_reducible assumption) | (with_reducible exact Below.refl _ _) | (with_reducible refine Below.alloc ?_ ?_ _) | (with_reducible refine Bk.drewN_ ?_ _) | (with_reducible refine Below.drew ?_) | (with_reducible refine Below.setCell ?_ ?_ _) | go_size)) hb1
    obtain ⟨hc1, hf1⟩ := bcell hb1
    have k0 : w1.cell? ⟨w.heap.size, 0, none⟩ = some (.int .u8 op) := by go_simp
    clear hb1
    have hv := HV.out
    go_wp2_with fail
    all_goals (go_ret; refine ⟨ret_bool ?_, by repeat' (first | (with_reducible assumption) | (with_reducible exact Below.refl _ _) | (with_reducible refine Below.alloc ?_ ?_ _) | (with_reducible refine Bk.drewN_ ?_ _) | (with_reducible refine Below.drew ?_) | (with_reducible refine Below.setCell ?_ ?_ _) | go_size)⟩; go_tidy; clear HV k0; simp_all [refCancels])

set_option maxHeartbeats 2000000 in
theorem c_Cancels (op a b c d op' a' b' c' d' : Int) (h0 : 0 ≤ op) (h1 : op ≤ 255) (w : World) (hTab : TableAt w) :
    Calls Tryd.prog 11 #[.agg #[.int .u8 op, .int .i64 a, .int .i64 b, .int .i64 c, .int .i64 d], .agg #[.int .u8 op', .int .i64 a', .int .i64 b', .int .i64 c', .int .i64 d']] w fun e w' =>
      e = .returned (.bool (cancels ⟨op, a, b, c, d⟩ ⟨op', a', b', c', d'⟩)) ∧ Below w.heap.size w w' := by
  obtain ⟨vv, hvv⟩ : ∃ v, validB op a b c d = v := ⟨_, rfl⟩
  obtain ⟨vc, hvc⟩ : ∃ v, ctlB op = v := ⟨_, rfl⟩
  have hval : cancels ⟨op, a, b, c, d⟩ ⟨op', a', b', c', d'⟩ = (vv && (!vc && decide ((⟨rinv op, a, b, c, d⟩ : Ins) = ⟨op', a', b', c', d'⟩))) := by
    show (validB op a b c d && _) = _
    rw [hvv]; simp only [hvc]
  have HV := Lib.hid hvv; have HVal := Lib.hid hval; have HT := Lib.hid hTab
  have hj : jumpB op = decide (op = 22 ∨ op = 23 ∨ op = 24) := rfl
  cases vc with
  | true =>
    have h := of_decide_eq_true hvc
    have hfin : cancels ⟨op, a, b, c, d⟩ ⟨op', a', b', c', d'⟩ = false := by rw [hval]; simp
    have HF := Lib.hid hfin
    clear hvv hval hvc hTab hj hfin HVal
    by_cases hs : op = 0 ∨ op = 21 ∨ op = 30 ∨ op = 31 ∨ op = 32 ∨ op = 33 ∨ op = 34
    · clear h h0 h1
      rcases hs with rfl | rfl | rfl | rfl | rfl | rfl | rfl
      all_goals
        go_enter Tryd.func11, Tryd.ntmps11
        go_wp2_with fail
        go_ret
        exact ⟨ret_bool HF.out.symm, by repeat' (first | (with_reducible assumption) | (with_reducible exact Below.refl _ _) | (with_reducible refine Below.alloc ?_ ?_ _) | (with_reducible refine Bk.drewN_ ?_ _) | (with_reducible refine Below.drew ?_) | (with_reducible refine Below.setCell ?_ ?_ _) | go_size)⟩
    · obtain ⟨jv, hj⟩ : ∃ v, jumpB op = v := ⟨_, rfl⟩
      obtain ⟨lv, hl⟩ : ∃ v, landB op = v := ⟨_, rfl⟩
      have hcase : jv = true ∨ (jv = false ∧ lv = true) ∨ (jv = false ∧ lv = false ∧ vv = false) := by
        subst hj; subst hl
        have hvv := HV.out
        by_cases h35 : op < 35
        · have : (op = 22 ∨ op = 23 ∨ op = 24) ∨ (op = 25 ∨ op = 26 ∨ op = 27) := by omega
          rcases this with e | e
          · exact .inl (by simp [jumpB, e])
          · refine .inr (.inl ⟨?_, by simp [landB, e]⟩)
            simp [jumpB]; omega
        · refine .inr (.inr ⟨by simp [jumpB]; omega, by simp [landB]; omega, ?_⟩)
          rw [← hvv]; simp [validB, h35]
      have HJ := Lib.hid hj; have HL := Lib.hid hl
      have n0 : (op == 30) = false := by simp; omega
      have n1 : (op == 31) = false := by simp; omega
      have n2 : (op == 32) = false := by simp; omega
      have n3 : (op == 33) = false := by simp; omega
      have n4 : (op == 34) = false := by simp; omega
      have n5 : (op == 21) = false := by simp; omega
      have n6 : (op == 0) = false := by simp; omega
      clear hj hl h hs
      rcases hcase with rfl | ⟨rfl, rfl⟩ | ⟨rfl, rfl, rfl⟩
      all_goals
        go_enter Tryd.func11, Tryd.ntmps11
        go_wp2_with (first | (go_at_call 27; ((with_reducible refine (c_IsJump' _ HJ.out _).mono ?_); rintro e w' ⟨rfl, rfl⟩)) | (go_at_call 28; ((with_reducible refine (c_IsLanding' _ HL.out _).mono ?_); rintro e w' ⟨rfl, rfl⟩)))
      · go_ret
        exact ⟨ret_bool HF.out.symm, by repeat' (first | (with_reducible assumption) | (with_reducible exact Below.refl _ _) | (with_reducible refine Below.alloc ?_ ?_ _) | (with_reducible refine Bk.drewN_ ?_ _) | (with_reducible refine Below.drew ?_) | (with_reducible refine Below.setCell ?_ ?_ _) | go_size)⟩
      · go_ret
        exact ⟨ret_bool HF.out.symm, by repeat' (first | (with_reducible assumption) | (with_reducible exact Below.refl _ _) | (with_reducible refine Below.alloc ?_ ?_ _) | (with_reducible refine Bk.drewN_ ?_ _) | (with_reducible refine Below.drew ?_) | (with_reducible refine Below.setCell ?_ ?_ _) | go_size)⟩
      · go_region_with (go_at_call 12; ((with_reducible refine (c_Valid' _ _ _ _ _ HV.out h0 _ (HT.out.next (by repeat' (first | (with_reducible assumption) | (with_reducible exact Below.refl _ _) | (with_reducible refine Below.alloc ?_ ?_ _) | (with_reducible refine Bk.drewN_ ?_ _) | (with_reducible refine Below.drew ?_) | (with_reducible refine Below.setCell ?_ ?_ _) | go_size)))).mono ?_); rintro e w1 ⟨rfl, hb1⟩; (try (have hs0 : w.heap.size < w1.heap.size := (by have := hb1.size; (try simp at this); omega))); (try (have hs1 : w.heap.size + 1 < w1.heap.size := (by have := hb1.size; (try simp at this); omega))); have hB1 : Below w.heap.size w w1 := Below.next (by repeat' (first | (with_reducible assumption) | (with_reducible exact Below.refl _ _) | (with_reducible refine Below.alloc ?_ ?_ _) | (with_reducible refine Bk.drewN_ ?_ _) | (with_reducible refine Below.drew ?_) | (with_reducible refine Below.setCell ?_ ?_ _) | go_size)) hb1; obtain ⟨hc1, hf1⟩ := bcell hb1; obtain ⟨hcA1, hfA1⟩ := bcell hB1; have HB1 := Lib.hid hb1; clear hb1))
        all_goals go_wp2_with fail
        all_goals go_ret
        all_goals exact ⟨ret_bool HF.out.symm, by repeat' (first | (with_reducible assumption) | (with_reducible exact Below.refl _ _) | (with_reducible refine Below.alloc ?_ ?_ _) | (with_reducible refine Bk.drewN_ ?_ _) | (with_reducible refine Below.drew ?_) | (with_reducible refine Below.setCell ?_ ?_ _) | go_size)⟩
  | false =>
    have h := of_decide_eq_false hvc
    have hj : jumpB op = false := by simp [jumpB]; omega
    have hl : landB op = false := by simp [landB]; omega
    have hri := rinv_eq op hvc
    have HRI := Lib.hid hri
    have HJ := Lib.hid hj; have HL := Lib.hid hl
    have n0 : (op == 30) = false := by simp; omega
    have n1 : (op == 31) = false := by simp; omega
    have n2 : (op == 32) = false := by simp; omega
    have n3 : (op == 33) = false := by simp; omega
    have n4 : (op == 34) = false := by simp; omega
    have n5 : (op == 21) = false := by simp; omega
    have n6 : (op == 0) = false := by simp; omega
    clear hvv hval hvc hTab hj hl h hri
    cases vv with
    | false =>
      go_enter Tryd.func11, Tryd.ntmps11
      go_wp2_with (first | (go_at_call 27; ((with_reducible refine (c_IsJump' _ HJ.out _).mono ?_); rintro e w' ⟨rfl, rfl⟩)) | (go_at_call 28; ((with_reducible refine (c_IsLanding' _ HL.out _).mono ?_); rintro e w' ⟨rfl, rfl⟩)))
      go_region_with (go_at_call 12; ((with_reducible refine (c_Valid' _ _ _ _ _ HV.out h0 _ (HT.out.next (by repeat' (first | (with_reducible assumption) | (with_reducible exact Below.refl _ _) | (with_reducible refine Below.alloc ?_ ?_ _) | (with_reducible refine Bk.drewN_ ?_ _) | (with_reducible refine Below.drew ?_) | (with_reducible refine Below.setCell ?_ ?_ _) | go_size)))).mono ?_); rintro e w1 ⟨rfl, hb1⟩; (try (have hs0 : w.heap.size < w1.heap.size := (by have := hb1.size; (try simp at this); omega))); (try (have hs1 : w.heap.size + 1 < w1.heap.size := (by have := hb1.size; (try simp at this); omega))); have hB1 : Below w.heap.size w w1 := Below.next (by repeat' (first | (with_reducible assumption) | (with_reducible exact Below.refl _ _) | (with_reducible refine Below.alloc ?_ ?_ _) | (with_reducible refine Bk.drewN_ ?_ _) | (with_reducible refine Below.drew ?_) | (with_reducible refine Below.setCell ?_ ?_ _) | go_size)) hb1; obtain ⟨hc1, hf1⟩ := bcell hb1; obtain ⟨hcA1, hfA1⟩ := bcell hB1; have HB1 := Lib.hid hb1; clear hb1))
      all_goals go_wp2_with fail
      all_goals go_ret
      all_goals exact ⟨ret_bool (by rw [HVal.out]; rfl), by repeat' (first | (with_reducible assumption) | (with_reducible exact Below.refl _ _) | (with_reducible refine Below.alloc ?_ ?_ _) | (with_reducible refine Bk.drewN_ ?_ _) | (with_reducible refine Below.drew ?_) | (with_reducible refine Below.setCell ?_ ?_ _) | go_size)⟩
    | true =>
      go_enter Tryd.func11, Tryd.ntmps11
      go_wp2_with (first | (go_at_call 27; ((with_reducible refine (c_IsJump' _ HJ.out _).mono ?_); rintro e w' ⟨rfl, rfl⟩)) | (go_at_call 28; ((with_reducible refine (c_IsLanding' _ HL.out _).mono ?_); rintro e w' ⟨rfl, rfl⟩)))
      have heq := fun W => eql_ins W op' a' b' c' d' (inv op) a b c d
      go_region_held3 (fun w' => w'.cell? ⟨w.heap.size, 0, none⟩ = some (.int .u8 op) ∧ w'.cell? ⟨w.heap.size, 1, none⟩ = some (.int .i64 a) ∧ w'.cell? ⟨w.heap.size, 2, none⟩ = some (.int .i64 b) ∧ w'.cell? ⟨w.heap.size, 3, none⟩ = some (.int .i64 c) ∧ w'.cell? ⟨w.heap.size, 4, none⟩ = some (.int .i64 d) ∧ w'.cell? ⟨w.heap.size + 1, 0, none⟩ = some (.int .u8 op') ∧ w'.cell? ⟨w.heap.size + 1, 1, none⟩ = some (.int .i64 a') ∧ w'.cell? ⟨w.heap.size + 1, 2, none⟩ = some (.int .i64 b') ∧ w'.cell? ⟨w.heap.size + 1, 3, none⟩ = some (.int .i64 c') ∧ w'.cell? ⟨w.heap.size + 1, 4, none⟩ = some (.int .i64 d')) (go_simp) (first | (go_at_call 12; ((with_reducible refine (c_Valid' _ _ _ _ _ HV.out h0 _ (HT.out.next (by repeat' (first | (with_reducible assumption) | (with_reducible exact Below.refl _ _) | (with_reducible refine Below.alloc ?_ ?_ _) | (with_reducible refine Bk.drewN_ ?_ _) | (with_reducible refine Below.drew ?_) | (with_reducible refine Below.setCell ?_ ?_ _) | go_size)))).mono ?_); rintro e w1 ⟨rfl, hb1⟩; (try (have hs0 : w.heap.size < w1.heap.size := (by have := hb1.size; (try simp at this); omega))); (try (have hs1 : w.heap.size + 1 < w1.heap.size := (by have := hb1.size; (try simp at this); omega))); have hB1 : Below w.heap.size w w1 := Below.next (by repeat' (first | (with_reducible assumption) | (with_reducible exact Below.refl _ _) | (with_reducible refine Below.alloc ?_ ?_ _) | (with_reducible refine Bk.drewN_ ?_ _) | (with_reducible refine Below.drew ?_) | (with_reducible refine Below.setCell ?_ ?_ _) | go_size)) hb1; obtain ⟨hc1, hf1⟩ := bcell hb1; obtain ⟨hcA1, hfA1⟩ := bcell hB1; have HB1 := Lib.hid hb1; clear hb1)) | (go_at_call 10; ((with_reducible refine (c_Inverse _ _ _ _ _ h0 h1 _).mono ?_); rintro e w1 ⟨rfl, hb1⟩; (try (have hs0 : w.heap.size < w1.heap.size := (by have := hb1.size; (try simp at this); omega))); (try (have hs1 : w.heap.size + 1 < w1.heap.size := (by have := hb1.size; (try simp at this); omega))); have hB1 : Below w.heap.size w w1 := Below.next (by repeat' (first | (with_reducible assumption) | (with_reducible exact Below.refl _ _) | (with_reducible refine Below.alloc ?_ ?_ _) | (with_reducible refine Bk.drewN_ ?_ _) | (with_reducible refine Below.drew ?_) | (with_reducible refine Below.setCell ?_ ?_ _) | go_size)) hb1; obtain ⟨hc1, hf1⟩ := bcell hb1; obtain ⟨hcA1, hfA1⟩ := bcell hB1; have HB1 := Lib.hid hb1; clear hb1)))
      all_goals go_wp2_with fail
      all_goals go_ret
      all_goals exact ⟨ret_bool (by rw [HVal.out, HRI.out]; simp [eq_comm]), by repeat' (first | (with_reducible assumption) | (with_reducible exact Below.refl _ _) | (with_reducible refine Below.alloc ?_ ?_ _) | (with_reducible refine Bk.drewN_ ?_ _) | (with_reducible refine Below.drew ?_) | (with_reducible refine Below.setCell ?_ ?_ _) | go_size)⟩
end Go.Proofs.YtfobnkgfbdmakaaDoor
