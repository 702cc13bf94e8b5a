/- The walk of the law CpuInverse. -/
import Derived.Test.YteocbllbljeajaaDoorLwG
import Derived.Test.YteocbllbljeajaaDoorZM0
import Derived.Deep.DeepCutAuto
set_option linter.unusedVariables false
set_option linter.unusedSimpArgs false
set_option maxRecDepth 100000
set_option maxHeartbeats 8000000
namespace Go.Proofs.YteocbllbljeajaaDoor
open Go.RowKit Bk
/-- An instruction that is not one of control, moving backward, does what its inverse does moving forward. -/
theorem inv_both {i : Ins} (hs : straightB i.op = true) (hv : i.valid = true) (h0 : 0 ≤ i.op) {M0 : Mach} (hp : M0.pc = 0) (hd : M0.dir = 1) {ea eb : Int} {NA NB : Mach} (hA : Bk.step [i] (M0.at_ 1 (-1)) = (ea, NA)) (hB : Bk.step [i.inverse] M0 = (eb, NB)) :
    ea = eb ∧ NA.at_ NB.pc NB.dir = NB := by
  have hs' := of_decide_eq_true hs
  have his := of_decide_eq_true (inv_straight hs)
  have hiv := inv_valid' hv h0
  have jA : ¬ (jumpB i.op = true ∨ landB i.op = true) := by rw [ctl_iff]; omega
  have jB : ¬ (jumpB i.inverse.op = true ∨ landB i.inverse.op = true) := by rw [ctl_iff]; show ¬ (22 ≤ inv i.op ∧ inv i.op ≤ 27); omega
  have gA : ([i] : Prg).getD 0 default = i := rfl
  have gB : ([i.inverse] : Prg).getD 0 default = i.inverse := rfl
  rw [step_in (code := [i]) (M := M0.at_ 1 (-1)) 0 (by unfold nextAt Mach.at_; simp) (by simp) (by rw [gA]; omega) (by rw [gA]; exact hv), gA, if_neg (by omega), if_neg (by omega), if_neg jA] at hA
  rw [step_in (code := [i.inverse]) (M := M0) 0 (by unfold nextAt; rw [hd, hp]; simp) (by simp) (by rw [gB]; show inv i.op ≠ 34; omega) (by rw [gB]; exact hiv), gB, if_neg (by show ¬ (inv i.op = 30 ∨ inv i.op = 31); omega), if_neg (by show ¬ (inv i.op = 32 ∨ inv i.op = 33); omega), if_neg jB] at hB
  rw [show (if (M0.at_ 1 (-1)).dir < 0 then i.inverse else i) = i.inverse from if_pos (by show (-1 : Int) < 0; decide), exec_at] at hA
  rw [show (if M0.dir < 0 then i.inverse.inverse else i.inverse) = i.inverse from if_neg (by omega)] at hB
  dsimp only at hA hB
  by_cases he : (exec M0 i.inverse).1 = 0
  · rw [if_pos he] at hA hB
    injection hA with hA1 hA2; injection hB with hB1 hB2
    subst hA2; subst hB2
    exact ⟨hA1.symm.trans hB1, rfl⟩
  · rw [if_neg he] at hA hB
    injection hA with hA1 hA2; injection hB with hB1 hB2
    subst hA2; subst hB2
    exact ⟨hA1.symm.trans hB1, rfl⟩
theorem wf_one {i : Ins} (h : i.Wf) : CodeWf [i] := fun k hk => by
  have : k = 0 := by simpa using hk
  subst this; exact h
theorem wf_inv {i : Ins} (h : i.Wf) : i.inverse.Wf := ⟨(inv_range _ h.op0 h.op1).1, (inv_range _ h.op0 h.op1).2, h.a0, h.a1, h.b0, h.b1, h.c0, h.c1, h.d0, h.d1⟩
theorem rd_one {w : World} {g : Nat} {i : Ins} (h : Blk w g 42 #[.int .u8 i.op, .int .i64 i.a, .int .i64 i.b, .int .i64 i.c, .int .i64 i.d]) : Rd w (· < w.heap.size) 5 (some ⟨g, 0, none⟩) 1 (codeCells [i]) :=
  Rd.blk_ (cs := #[.int .u8 i.op, .int .i64 i.a, .int .i64 i.b, .int .i64 i.c, .int .i64 i.d]) h h.lt rfl
theorem info_img3 : (Tryd.prog.info? 24).map (fun i => i.size) = some 3 := by kernel_rfl
theorem c_lawCpuInverse (i : Ins) (hwi : i.Wf) (A : Option Addr) (n cap : Nat) (im : Img) (M : Mach) (vm vs vc vi vo : Value) (sv : List Value) (w : World) (hC : Rd w (· < w.heap.size) 5 A n (codeCells im.code)) (hw : CodeWf im.code) (hL : MLs w (· < w.heap.size) M vm vs vc vi vo sv) (hwf : MWf M) (hl : ∀ l ∈ M.s, l.length ≤ 17592186043904) (hTab : TableAt w) :
    Calls Tryd.prog 5 #[.agg #[.int .u8 i.op, .int .i64 i.a, .int .i64 i.b, .int .i64 i.c, .int .i64 i.d], .agg #[.slice A n cap, .int .i64 im.mem, .int .i64 im.stacks], .agg (mcells M vm vs vc vi vo).toArray] w fun e w' => e = .returned (.bool true) ∧ Below w.heap.size w w' := by
  obtain ⟨v, hv⟩ : ∃ v, i.valid = v := ⟨_, rfl⟩
  obtain ⟨op, a, b, c, d⟩ := i
  have h0 : 0 ≤ op := hwi.op0
  have h255 : op ≤ 255 := hwi.op1
  have HWI := Lib.hid hwi
  have HT := Lib.hid hTab; have HL := Lib.hid hL; have HLL := Lib.hid hl; have HV := Lib.hid hv; have HWF := Lib.hid hwf
  clear hC hTab hL hl hv hwf hwi
  dsimp only
  go_enter Tryd.func5, Tryd.ntmps5
  go_upto_region 1 with fail
  refine wp_nameY ?_
  intro w1 hw1
  have hB_w1 : Below w.heap.size w w1 := by rw [hw1]; exact (by go_grown)
  have K_i : Blk w1 w.heap.size 42 #[.int .u8 op, .int .i64 a, .int .i64 b, .int .i64 c, .int .i64 d] := by rw [hw1]; exact (by repeat' (first | assumption | exact Blk.new' (by simp) _ _ | apply Blk.alloc | apply Blk.drew))
  have K_1 : Blk w1 (w.heap.size + 1) 24 #[.slice A n cap, .int .i64 im.mem, .int .i64 im.stacks] := by rw [hw1]; exact (by repeat' (first | assumption | exact Blk.new' (by simp) _ _ | apply Blk.alloc | apply Blk.drew))
  have KM : Blk w1 (w.heap.size + 2) 30 (mcells M vm vs vc vi vo).toArray := by rw [hw1]; exact Blk.new' (by simp) _ _
  have HKM := Lib.hid KM
  have zz : w1.heap.size = w.heap.size + 3 := by rw [hw1]; simp
  clear hw1 KM
  obtain ⟨z_i, T_i, F_i⟩ := K_i.open_; have H_i := Lib.hid K_i; clear K_i
  obtain ⟨z_1, T_1, F_1⟩ := K_1.open_; have H_1 := Lib.hid K_1; clear K_1
  go_wp2_with fail
  refine (c_awake24 _ (HT.out.next hB_w1)).mono ?_
  rintro e w2 ⟨rfl, hb2⟩
  have hB_w2 := hB_w1.next hb2
  replace HKM := Lib.hid (HKM.out.next hb2)
  have K_i := H_i.out.next hb2; have K_1 := H_1.out.next hb2; (try clear H_i); (try clear T_i); (try clear z_i); (try clear F_i); (try clear H_1); (try clear T_1); (try clear z_1); (try clear F_1); obtain ⟨z_i, T_i, F_i⟩ := K_i.open_; have H_i := Lib.hid K_i; clear K_i; obtain ⟨z_1, T_1, F_1⟩ := K_1.open_; have H_1 := Lib.hid K_1; clear K_1
  clear hb2
  go_wp2_with fail
  refine (c_Valid' op a b c d (v := v) HV.out h0 _ (HT.out.next hB_w2)).mono ?_
  rintro e w3 ⟨rfl, hb3⟩
  have hB_w3 := hB_w2.next hb3
  replace HKM := Lib.hid (HKM.out.next hb3)
  have K_i := H_i.out.next hb3; have K_1 := H_1.out.next hb3; (try clear H_i); (try clear T_i); (try clear z_i); (try clear F_i); (try clear H_1); (try clear T_1); (try clear z_1); (try clear F_1); obtain ⟨z_i, T_i, F_i⟩ := K_i.open_; have H_i := Lib.hid K_i; clear K_i; obtain ⟨z_1, T_1, F_1⟩ := K_1.open_; have H_1 := Lib.hid K_1; clear K_1
  have z3 := hb3.size
  clear hb3
  cases v with
  | false =>
    go_wp2_with fail
    refine (c_awake24 _ (HT.out.next hB_w3)).mono ?_
    rintro e w4 ⟨rfl, hb4⟩
    have hB_w4 := hB_w3.next hb4
    go_wp2_with fail
    go_ret
    exact ⟨rfl, hB_w4⟩
  | true =>
    rcases (show (22 ≤ op ∧ op ≤ 27) ∨ 30 ≤ op ∨ (straightB op = true ∧ ((¬ 22 ≤ op ∧ ¬ 30 ≤ op) ∨ (22 ≤ op ∧ ¬ op ≤ 27 ∧ ¬ 30 ≤ op))) by
      by_cases h1 : 22 ≤ op ∧ op ≤ 27
      · exact .inl h1
      by_cases h2 : 30 ≤ op
      · exact .inr (.inl h2)
      exact .inr (.inr ⟨decide_eq_true (by omega), by omega⟩)) with ⟨q1, q2⟩ | q1 | ⟨hs, hq⟩
    · have q3 : 22 ≤ op := q1
      go_wp2_with fail
      refine (c_awake24 _ (HT.out.next hB_w3)).mono ?_
      rintro e w4 ⟨rfl, hb4⟩
      have hB_w4 := hB_w3.next hb4
      go_wp2_with fail
      go_ret
      exact ⟨rfl, hB_w4⟩
    · have q3 : 22 ≤ op := by omega
      have q4 : ¬ op ≤ 27 := by omega
      go_wp2_with fail
      refine (c_awake24 _ (HT.out.next hB_w3)).mono ?_
      rintro e w4 ⟨rfl, hb4⟩
      have hB_w4 := hB_w3.next hb4
      go_wp2_with fail
      go_ret
      exact ⟨rfl, hB_w4⟩
    · have HS := Lib.hid hs
      clear hs
      rcases hq with ⟨q3, q4⟩ | ⟨q3, q5, q4⟩
      all_goals
        go_upto_region 4 with fail
        refine wp_nameY ?_
        intro w4 hw4
        have hb4 : Below w3.heap.size w3 w4 := by rw [hw4]; exact (by go_grown)
        have G1 : Blk w4 w3.heap.size 42 #[.int .u8 op, .int .i64 a, .int .i64 b, .int .i64 c, .int .i64 d] := by rw [hw4]; exact (by repeat' (first | assumption | exact Blk.new' (by simp) _ _ | apply Blk.alloc | apply Blk.drew))
        have K7 : Blk w4 (w3.heap.size + 1) 24 #[.slice (some ⟨w3.heap.size, 0, none⟩) 1 1, .int .i64 im.mem, .int .i64 im.stacks] := by rw [hw4]; exact (by repeat' (first | assumption | exact Blk.new' (by simp) _ _ | apply Blk.alloc | apply Blk.drew))
        have z4 : w4.heap.size = w3.heap.size + 2 := by rw [hw4]; simp
        have hB_w4 := hB_w3.next hb4
        replace HKM := Lib.hid (HKM.out.next hb4)
        have K_i := H_i.out.next hb4; have K_1 := H_1.out.next hb4; (try clear H_i); (try clear T_i); (try clear z_i); (try clear F_i); (try clear H_1); (try clear T_1); (try clear z_1); (try clear F_1); obtain ⟨z_i, T_i, F_i⟩ := K_i.open_; have H_i := Lib.hid K_i; clear K_i; obtain ⟨z_1, T_1, F_1⟩ := K_1.open_; have H_1 := Lib.hid K_1; clear K_1
        have HG1 := Lib.hid G1; have HK7 := Lib.hid K7
        clear hw4 hb4 G1 K7
        go_cut [8] (fun v8 wx => ∃ b8 g8 : Nat, v8 = .pointer (some ⟨b8, 0, none⟩) ∧ Blk wx b8 24 #[.slice (some ⟨g8, 0, none⟩) 1 1, .int .i64 im.mem, .int .i64 im.stacks] ∧ Blk wx g8 42 #[.int .u8 (inv op), .int .i64 a, .int .i64 b, .int .i64 c, .int .i64 d] ∧ Below w4.heap.size w4 wx)
        case first =>
          refine wp_region_held_drew (S := fun W => Below w4.heap.size w4 W) (by kernel_rfl) ((Below.refl _ _).drew) (fun hH => ?_)
          refine wpAnyH_take (i := 0) (v := ?_) rfl (by kernel_rfl) (by kernel_rfl) (by kernel_rfl) (fun _ _ _ h => h) (Or.inl ⟨by rfl, ?hy⟩) hH ?_
          case hy => (intro w9_ hS9; have T9 := (H_i.out.next hS9).cell; have T8 := (H_1.out.next hS9).cell; clear hS9; go_simp; try with_reducible rfl)
          (try simp only [Bk.PU, Act.put])
          refine wpAnyH_take (i := 3) (v := ?_) rfl (by kernel_rfl) (by kernel_rfl) (by kernel_rfl) (fun _ _ _ h => h) (Or.inl ⟨by rfl, ?hy⟩) hH ?_
          case hy => (intro w9_ hS9; have T9 := (H_i.out.next hS9).cell; have T8 := (H_1.out.next hS9).cell; clear hS9; go_simp; try with_reducible rfl)
          (try simp only [Bk.PU, Act.put])
          refine wpAnyH_take (i := 4) (v := ?_) rfl (by kernel_rfl) (by kernel_rfl) (by kernel_rfl) (fun _ _ _ h => h) (Or.inl ⟨by rfl, ?hy⟩) hH ?_
          case hy => (intro w9_ hS9; have T9 := (H_i.out.next hS9).cell; have T8 := (H_1.out.next hS9).cell; clear hS9; go_simp; try with_reducible rfl)
          (try simp only [Bk.PU, Act.put])
          refine wpAnyH_take (i := 5) (v := ?_) rfl (by kernel_rfl) (by kernel_rfl) (by kernel_rfl) (fun _ _ _ h => h) (Or.inl ⟨by rfl, ?hy⟩) hH ?_
          case hy => (intro w9_ hS9; have T9 := (H_i.out.next hS9).cell; have T8 := (H_1.out.next hS9).cell; clear hS9; go_simp; try with_reducible rfl)
          (try simp only [Bk.PU, Act.put])
          refine wpAnyH_take (i := 6) (v := ?_) rfl (by kernel_rfl) (by kernel_rfl) (by kernel_rfl) (fun _ _ _ h => h) (Or.inl ⟨by rfl, ?hy⟩) hH ?_
          case hy => (intro w9_ hS9; have T9 := (H_i.out.next hS9).cell; have T8 := (H_1.out.next hS9).cell; clear hS9; go_simp; try with_reducible rfl)
          (try simp only [Bk.PU, Act.put])
          refine wpAnyH_at ?_
          intro V0 hV0
          have S0 : Below w4.heap.size w4 V0 := by rw [hV0]; exact hH
          clear hH hV0
          refine wpAnyH_ready (rs := [1, 8]) (by kernel_rfl) (by simp) ?_
          refine AllReadyH.cons rfl (fun K hK => ?_) ?_
          · go_simp
            refine (c_Inverse op a b c d h0 h255 _).mono ?_
            rintro e V1 ⟨rfl, b1⟩
            refine hK.out _ _ (S0.next b1) (fun _ => ?_)
            clear hK
            (try simp only [Bk.PU, Act.put])
            have S1 : Below w4.heap.size w4 V1 := S0.next b1
            refine wpAnyH_ready (rs := [2, 8]) (by kernel_rfl) (by simp) ?_
            refine AllReadyH.cons rfl (fun K hK => ?_) ?_
            · go_simp
              refine hK.out _ _ (S1.alloc S1.size _) (fun hH => ?_)
              clear hK hH
              (try simp only [Bk.PU, Act.put])
              refine wpAnyH_at ?_
              intro V2 hV2
              have b2 : Below V1.heap.size V1 V2 := by rw [hV2]; exact (Below.refl _ _).alloc (Nat.le_refl _) _
              have S2 : Below w4.heap.size w4 V2 := S1.next b2
              have f2_2 : Blk V2 V1.heap.size 42 #[.int .u8 (inv op), .int .i64 a, .int .i64 b, .int .i64 c, .int .i64 d] := by rw [hV2]; exact Blk.new _ _ _
              clear hV2
              refine wpAnyH_take (i := 7) (v := ?_) rfl (by kernel_rfl) (by kernel_rfl) (by kernel_rfl) (fun _ _ _ h => h) (Or.inl ⟨by rfl, ?hy⟩) S2 ?_
              case hy => (intro w9_ hS9; clear hS9; go_simp; try with_reducible rfl)
              (try simp only [Bk.PU, Act.put])
              refine wpAnyH_ready (rs := [8]) (by kernel_rfl) (by simp) ?_
              refine AllReadyH.cons rfl (fun K hK => ?_) ?_
              · go_simp
                refine hK.out _ _ (S2.alloc S2.size _) (fun hH => ?_)
                clear hK hH
                (try simp only [Bk.PU, Act.put])
                refine wpAnyH_at ?_
                intro V3 hV3
                have b3 : Below V2.heap.size V2 V3 := by rw [hV3]; exact (Below.refl _ _).alloc (Nat.le_refl _) _
                have S3 : Below w4.heap.size w4 V3 := S2.next b3
                have f2_3 := f2_2.next b3
                have f8_3 : Blk V3 V2.heap.size 24 #[.slice none 0 0, .int .i64 0, .int .i64 0] := by rw [hV3]; exact Blk.new _ _ _
                clear hV3
                refine wpAnyH_ready (rs := [9]) (by kernel_rfl) (by simp) ?_
                refine AllReadyH.cons rfl (fun K hK => ?_) (AllReadyH.nil)
                rw [if_pos (by rfl)]
                have x8 : w4.heap.size ≤ V2.heap.size := by first | exact S0.size | exact S1.size | exact S2.size
                refine wp_store_row 24 _ _ rfl V2.heap.size _ rfl rfl 24 #[.slice none 0 0, .int .i64 0, .int .i64 0] f8_3 (by rw [info_img3]; rfl) rfl (by simp [Value.oneCell']) ?_
                refine hK.out _ _ (((Fr.of S3).trans (Fr.setRow _ _ _)).below (Nat.le_refl _) (fun k hk => by omega)) (fun hH => ?_)
                clear hK
                (try simp only [Bk.PU, Act.put])
                refine wpAnyH_done (by kernel_rfl) ?_ _
                go_wp2_with fail
                go_meet
                exact ⟨_, _, rfl, setRow_heap _ _ _ _ _ _ f8_3, (setRow_other _ _ _ _ (Blk.ne_ f2_3 f8_3 (by decide))).trans f2_3, hH⟩
              exact AllReadyH.nil
            refine AllReadyH.cons rfl (fun K hK => ?_) ?_
            · go_simp
              refine hK.out _ _ (S1.alloc S1.size _) (fun hH => ?_)
              clear hK hH
              (try simp only [Bk.PU, Act.put])
              refine wpAnyH_at ?_
              intro V2 hV2
              have b2 : Below V1.heap.size V1 V2 := by rw [hV2]; exact (Below.refl _ _).alloc (Nat.le_refl _) _
              have S2 : Below w4.heap.size w4 V2 := S1.next b2
              have f8_2 : Blk V2 V1.heap.size 24 #[.slice none 0 0, .int .i64 0, .int .i64 0] := by rw [hV2]; exact Blk.new _ _ _
              clear hV2
              refine wpAnyH_ready (rs := [2]) (by kernel_rfl) (by simp) ?_
              refine AllReadyH.cons rfl (fun K hK => ?_) ?_
              · go_simp
                refine hK.out _ _ (S2.alloc S2.size _) (fun hH => ?_)
                clear hK hH
                (try simp only [Bk.PU, Act.put])
                refine wpAnyH_at ?_
                intro V3 hV3
                have b3 : Below V2.heap.size V2 V3 := by rw [hV3]; exact (Below.refl _ _).alloc (Nat.le_refl _) _
                have S3 : Below w4.heap.size w4 V3 := S2.next b3
                have f8_3 := f8_2.next b3
                have f2_3 : Blk V3 V2.heap.size 42 #[.int .u8 (inv op), .int .i64 a, .int .i64 b, .int .i64 c, .int .i64 d] := by rw [hV3]; exact Blk.new _ _ _
                clear hV3
                refine wpAnyH_take (i := 7) (v := ?_) rfl (by kernel_rfl) (by kernel_rfl) (by kernel_rfl) (fun _ _ _ h => h) (Or.inl ⟨by rfl, ?hy⟩) S3 ?_
                case hy => (intro w9_ hS9; clear hS9; go_simp; try with_reducible rfl)
                (try simp only [Bk.PU, Act.put])
                refine wpAnyH_ready (rs := [9]) (by kernel_rfl) (by simp) ?_
                refine AllReadyH.cons rfl (fun K hK => ?_) (AllReadyH.nil)
                rw [if_pos (by rfl)]
                have x8 : w4.heap.size ≤ V1.heap.size := by first | exact S0.size | exact S1.size | exact S2.size
                refine wp_store_row 24 _ _ rfl V1.heap.size _ rfl rfl 24 #[.slice none 0 0, .int .i64 0, .int .i64 0] f8_3 (by rw [info_img3]; rfl) rfl (by simp [Value.oneCell']) ?_
                refine hK.out _ _ (((Fr.of S3).trans (Fr.setRow _ _ _)).below (Nat.le_refl _) (fun k hk => by omega)) (fun hH => ?_)
                clear hK
                (try simp only [Bk.PU, Act.put])
                refine wpAnyH_done (by kernel_rfl) ?_ _
                go_wp2_with fail
                go_meet
                exact ⟨_, _, rfl, setRow_heap _ _ _ _ _ _ f8_3, (setRow_other _ _ _ _ (Blk.ne_ f2_3 f8_3 (by decide))).trans f2_3, hH⟩
              exact AllReadyH.nil
            exact AllReadyH.nil
          refine AllReadyH.cons rfl (fun K hK => ?_) ?_
          · go_simp
            refine hK.out _ _ (S0.alloc S0.size _) (fun hH => ?_)
            clear hK hH
            (try simp only [Bk.PU, Act.put])
            refine wpAnyH_at ?_
            intro V1 hV1
            have b1 : Below V0.heap.size V0 V1 := by rw [hV1]; exact (Below.refl _ _).alloc (Nat.le_refl _) _
            have S1 : Below w4.heap.size w4 V1 := S0.next b1
            have f8_1 : Blk V1 V0.heap.size 24 #[.slice none 0 0, .int .i64 0, .int .i64 0] := by rw [hV1]; exact Blk.new _ _ _
            clear hV1
            refine wpAnyH_ready (rs := [1]) (by kernel_rfl) (by simp) ?_
            refine AllReadyH.cons rfl (fun K hK => ?_) ?_
            · go_simp
              refine (c_Inverse op a b c d h0 h255 _).mono ?_
              rintro e V2 ⟨rfl, b2⟩
              refine hK.out _ _ (S1.next b2) (fun _ => ?_)
              clear hK
              (try simp only [Bk.PU, Act.put])
              have S2 : Below w4.heap.size w4 V2 := S1.next b2
              have f8_2 := f8_1.next b2
              refine wpAnyH_ready (rs := [2]) (by kernel_rfl) (by simp) ?_
              refine AllReadyH.cons rfl (fun K hK => ?_) ?_
              · go_simp
                refine hK.out _ _ (S2.alloc S2.size _) (fun hH => ?_)
                clear hK hH
                (try simp only [Bk.PU, Act.put])
                refine wpAnyH_at ?_
                intro V3 hV3
                have b3 : Below V2.heap.size V2 V3 := by rw [hV3]; exact (Below.refl _ _).alloc (Nat.le_refl _) _
                have S3 : Below w4.heap.size w4 V3 := S2.next b3
                have f8_3 := f8_2.next b3
                have f2_3 : Blk V3 V2.heap.size 42 #[.int .u8 (inv op), .int .i64 a, .int .i64 b, .int .i64 c, .int .i64 d] := by rw [hV3]; exact Blk.new _ _ _
                clear hV3
                refine wpAnyH_take (i := 7) (v := ?_) rfl (by kernel_rfl) (by kernel_rfl) (by kernel_rfl) (fun _ _ _ h => h) (Or.inl ⟨by rfl, ?hy⟩) S3 ?_
                case hy => (intro w9_ hS9; clear hS9; go_simp; try with_reducible rfl)
                (try simp only [Bk.PU, Act.put])
                refine wpAnyH_ready (rs := [9]) (by kernel_rfl) (by simp) ?_
                refine AllReadyH.cons rfl (fun K hK => ?_) (AllReadyH.nil)
                rw [if_pos (by rfl)]
                have x8 : w4.heap.size ≤ V0.heap.size := by first | exact S0.size | exact S1.size | exact S2.size
                refine wp_store_row 24 _ _ rfl V0.heap.size _ rfl rfl 24 #[.slice none 0 0, .int .i64 0, .int .i64 0] f8_3 (by rw [info_img3]; rfl) rfl (by simp [Value.oneCell']) ?_
                refine hK.out _ _ (((Fr.of S3).trans (Fr.setRow _ _ _)).below (Nat.le_refl _) (fun k hk => by omega)) (fun hH => ?_)
                clear hK
                (try simp only [Bk.PU, Act.put])
                refine wpAnyH_done (by kernel_rfl) ?_ _
                go_wp2_with fail
                go_meet
                exact ⟨_, _, rfl, setRow_heap _ _ _ _ _ _ f8_3, (setRow_other _ _ _ _ (Blk.ne_ f2_3 f8_3 (by decide))).trans f2_3, hH⟩
              exact AllReadyH.nil
            exact AllReadyH.nil
          exact AllReadyH.nil
        case rest =>
          obtain ⟨b8, g8, rfl, k8, k9, hbc⟩ := hcut
          have hB_wc := hB_w4.next hbc
          have HK8 := Lib.hid k8; have HG8 := Lib.hid k9
          replace HKM := Lib.hid (HKM.out.next hbc); replace HK7 := Lib.hid (HK7.out.next hbc); replace HG1 := Lib.hid (HG1.out.next hbc)
          have HRc := Lib.hid ((HL.out.next hB_wc).at_ HKM.out)
          have e0 : wc.cell? ⟨w.heap.size + 2, 0, none⟩ = some (.int .i64 M.pc) := HRc.out.c0
          have e1 : wc.cell? ⟨w.heap.size + 2, 1, none⟩ = some (.int .i64 M.dir) := HRc.out.c1
          have e20 : wc.cell? ⟨w.heap.size + 2, 20, none⟩ = some vc := HRc.out.c20
          have f0 := HKM.out.frozen 0; have f1 := HKM.out.frozen 1; have f20 := HKM.out.frozen 20
          clear k8 k9 hbc T_i z_i F_i H_i T_1 z_1 F_1 H_1 HRc q3 q4
          go_upto_region 6 with fail
          refine wp_nameY ?_
          intro w6 hw6
          have KM6 : Blk w6 (w.heap.size + 2) 30 (mcells (m0 M) vm vs (.slice none 0 0) vi vo).toArray := by rw [hw6]; exact m0_blk HKM.out HL.out.rl
          have hf6 : Fr (· = w.heap.size + 2) wc w6 := by rw [hw6]; exact Fr.set (O := (· = w.heap.size + 2)) (Fr.set (O := (· = w.heap.size + 2)) (Fr.set (O := (· = w.heap.size + 2)) (p := ⟨w.heap.size + 2, 0, none⟩) (Fr.refl _ _) rfl _) (p := ⟨w.heap.size + 2, 1, none⟩) rfl _) (p := ⟨w.heap.size + 2, 20, none⟩) rfl _
          have hB_w6 : Below w.heap.size w w6 := hB_wc.trans (hf6.below (B := w.heap.size) hB_wc.size (fun k hk => by omega))
          replace HK7 := Lib.hid (hf6.blk HK7.out (HK7.out.ne_ HKM.out (by decide))); replace HG1 := Lib.hid (hf6.blk HG1.out (HG1.out.ne_ HKM.out (by decide)))
          replace HK8 := Lib.hid (hf6.blk HK8.out (HK8.out.ne_ HKM.out (by decide))); replace HG8 := Lib.hid (hf6.blk HG8.out (HG8.out.ne_ HKM.out (by decide)))
          have HM := Lib.hid ((HL.out.next hB_w6).m0.at_ KM6)
          obtain ⟨v1, hv1⟩ : ∃ v1, okB ⟨[⟨op, a, b, c, d⟩], im.mem, im.stacks⟩ (m0 M) = v1 := ⟨_, rfl⟩
          obtain ⟨v2, hv2⟩ : ∃ v2, (⟨[⟨inv op, a, b, c, d⟩], im.mem, im.stacks⟩ : Img).valid = v2 := ⟨_, rfl⟩
          have HV1 := Lib.hid hv1; have HV2 := Lib.hid hv2
          have HW1 : Hid (CodeWf [⟨op, a, b, c, d⟩]) := Lib.hid (wf_one HWI.out); have HW2 : Hid (CodeWf [⟨inv op, a, b, c, d⟩]) := Lib.hid (wf_one (wf_inv HWI.out))
          have z6 := KM6.lt
          clear hw6 hf6 KM6 hv1 hv2 e0 e1 e20 f0 f1 f20 HKM
          obtain ⟨z7, T7, F7⟩ := HK7.out.open_
          go_wp2_with (refine wpList_loadG 30 rfl rfl rfl (load_mach HM.out) ?_; simp only [Act.put, Bk.PU])
          refine (c_fits24 HM.out.mls (some ⟨w3.heap.size, 0, none⟩) 1 1 ⟨[⟨op, a, b, c, d⟩], im.mem, im.stacks⟩ rfl HLL.out (rd_one HG1.out) HW1.out (HT.out.next hB_w6) HV1.out).mono ?_
          rintro e w7 ⟨rfl, hb7⟩
          have hB_w7 := hB_w6.next hb7
          replace HM := Lib.hid (HM.out.next hb7); replace HK7 := Lib.hid (HK7.out.next hb7); replace HG1 := Lib.hid (HG1.out.next hb7); replace HK8 := Lib.hid (HK8.out.next hb7); replace HG8 := Lib.hid (HG8.out.next hb7)
          have zz7 := hb7.size
          clear hb7 z7 T7 F7
          rcases v1 with _ | _
          · go_wp2_with fail
            go_ret
            exact ⟨rfl, hB_w7⟩
          obtain ⟨z8, T8, F8⟩ := HK8.out.open_
          go_wp2_with fail
          refine (c_imValid' (some ⟨g8, 0, none⟩) 1 1 ⟨[⟨inv op, a, b, c, d⟩], im.mem, im.stacks⟩ HV2.out _ (rd_one HG8.out) HW2.out (HT.out.next hB_w7)).mono ?_
          rintro e w8 ⟨rfl, hb8⟩
          have hB_w8 := hB_w7.next hb8
          replace HM := Lib.hid (HM.out.next hb8); replace HK7 := Lib.hid (HK7.out.next hb8); replace HG1 := Lib.hid (HG1.out.next hb8); replace HK8 := Lib.hid (HK8.out.next hb8); replace HG8 := Lib.hid (HG8.out.next hb8)
          have zz8 := hb8.size
          clear hb8 z8 T8 F8
          rcases v2 with _ | _
          · go_wp2_with fail
            go_ret
            exact ⟨rfl, hB_w8⟩
          obtain ⟨hck, hfit, hsb, h100⟩ := ok_facts HWF.out.m0 HV1.out
          have hbd : MBd (m0 M) := MBd.of hck hfit hsb (by omega)
          have hck2 : (⟨[⟨inv op, a, b, c, d⟩], im.mem, im.stacks⟩ : Img).check.2 = 0 := by have h := HV2.out; unfold Img.valid at h; exact of_decide_eq_true h
          have hfitA : Fit ⟨[⟨op, a, b, c, d⟩], im.mem, im.stacks⟩ ((m0 M).at_ 1 (-1)) := ⟨hfit.ok.at_ _ _, .inr rfl, by show (0 : Int) ≤ 1; decide, by show (1 : Int) ≤ 1; decide, hfit.ml, hfit.sn, hfit.cl, hfit.cs⟩
          have hfitB : Fit ⟨[⟨inv op, a, b, c, d⟩], im.mem, im.stacks⟩ (m0 M) := ⟨hfit.ok, .inl rfl, by show (0 : Int) ≤ 0; decide, by show (0 : Int) ≤ 1; decide, hfit.ml, hfit.sn, hfit.cl, fun x hx => by cases hx⟩
          have hbdA : MBd ((m0 M).at_ 1 (-1)) := ⟨hbd.f0, hbd.f1, hbd.s0, hbd.s1, hbd.ml, hbd.sl, hbd.cl, hbd.il, hbd.ol, hbd.st⟩
          obtain ⟨ea, NA, hsA⟩ : ∃ ea NA, Bk.step [⟨op, a, b, c, d⟩] ((m0 M).at_ 1 (-1)) = (ea, NA) := ⟨_, _, rfl⟩
          obtain ⟨eb, NB, hsB⟩ : ∃ eb NB, Bk.step [⟨inv op, a, b, c, d⟩] (m0 M) = (eb, NB) := ⟨_, _, rfl⟩
          obtain ⟨heq, hN⟩ := inv_both (i := ⟨op, a, b, c, d⟩) HS.out HV.out h0 (M0 := m0 M) rfl rfl hsA hsB
          have hbN : MBd NB := by
            have e : NB = (Bk.step [⟨inv op, a, b, c, d⟩] (m0 M)).2 := by rw [hsB]
            rw [e]; exact MBd.of (im := ⟨[⟨inv op, a, b, c, d⟩], im.mem, im.stacks⟩) hck2 (Fit_step hck2 HW2.out hfitB) (SB.step hsb _) (by omega)
          subst heq
          have HCK := Lib.hid hck; have HCK2 := Lib.hid hck2; have HFA := Lib.hid hfitA; have HFB := Lib.hid hfitB; have HBD := Lib.hid hbd; have HBA := Lib.hid hbdA; have HSA := Lib.hid hsA; have HSB := Lib.hid hsB; have HN := Lib.hid hN; have HBN := Lib.hid hbN
          clear hck hfit hsb h100 hbd hck2 hfitA hfitB hbdA hsA hsB hN hbN
          go_wp2_with fail
          refine (c_Clone HM.out HBD.out).mono ?_
          rintro e w9 ⟨ba, gma, gsa, rfl, ra1, ra2, ra3, hcl, hb⟩
          have hB_w9 := hB_w8.next hb
          replace HM := Lib.hid (HM.out.next hb)
          have zw9 := hb.size
          have HAz := Lib.hid hcl
          have B89 := Lib.hid hb
          clear hcl hb
          go_wp2_with fail
          refine (c_Clone HM.out HBD.out).mono ?_
          rintro e w10 ⟨bb, gmb, gsb, rfl, rb1, rb2, rb3, hcl, hb⟩
          have hB_w10 := hB_w9.next hb
          have zw10 := hb.size
          have B8 := Lib.hid (B89.out.next hb)
          obtain ⟨Pa, hPa⟩ : ∃ P, P = (⟨ba, 30, [], [], 0, gma, gsa, fun k => k < w8.heap.size ∨ (w9.heap.size ≤ k ∧ k < w10.heap.size)⟩ : Pl) := ⟨_, rfl⟩
          have hA10 : MAt w10 Pa (m0 M) := by rw [hPa]; exact HAz.out.foreign hb (fun k hk => hk.elim .inl fun hk => .inr hk.1) (fun k hk => hk.elim (fun hk => by omega) fun hk => hk.2)
          obtain ⟨Pb, hPb⟩ : ∃ P, P = (⟨bb, 30, [], [], 0, gmb, gsb, (· < w9.heap.size)⟩ : Pl) := ⟨_, rfl⟩
          have HB10 : Hid (MAt w10 Pb (m0 M)) := Lib.hid (by rw [hPb]; exact hcl)
          have hpab : Pa.b = ba := by rw [hPa]
          have hpao : Pa.off = 0 := by rw [hPa]
          have hpbb : Pb.b = bb := by rw [hPb]
          have hpbo : Pb.off = 0 := by rw [hPb]
          have hx : ∀ k, (Pa.O k → w8.heap.size ≤ k ∧ k < w9.heap.size) ∧ (Pb.O k → w9.heap.size ≤ k ∧ k < w10.heap.size) := by
            obtain ⟨_, _, _, _, _, _, ha⟩ := HAz.out
            obtain ⟨_, _, _, _, _, _, hb'⟩ := HB10.out
            have a1 := ha.lt; have a2 := ha.gm; have a3 := ha.gs; have c1 := hb'.lt; have c2 := hb'.gm; have c3 := hb'.gs
            rw [hPb] at c1 c2 c3
            dsimp only at a1 a2 a3 c1 c2 c3
            refine fun k => ⟨fun ho => ?_, fun ho => ?_⟩
            · rw [hPa] at ho; rcases ho with e | e | e <;> (dsimp only at e; omega)
            · rw [hPb] at ho; rcases ho with e | e | e <;> (dsimp only at e; omega)
          have hab : ¬ Pa.O Pb.b ∧ ¬ Pa.O Pb.gm ∧ ¬ Pa.O Pb.gs ∧ ∀ k, Pa.O k → Pb.fx k :=
            ⟨fun h => by have := (hx _).1 h; have := (hx _).2 (.inl rfl); omega, fun h => by have := (hx _).1 h; have := (hx _).2 (.inr (.inl rfl)); omega, fun h => by have := (hx _).1 h; have := (hx _).2 (.inr (.inr rfl)); omega, fun k h => by rw [hPb]; exact ((hx k).1 h).2⟩
          have hba : ¬ Pb.O Pa.b ∧ ¬ Pb.O Pa.gm ∧ ¬ Pb.O Pa.gs ∧ ∀ k, Pb.O k → Pa.fx k :=
            ⟨fun h => by have := (hx _).2 h; have := (hx _).1 (.inl rfl); omega, fun h => by have := (hx _).2 h; have := (hx _).1 (.inr (.inl rfl)); omega, fun h => by have := (hx _).2 h; have := (hx _).1 (.inr (.inr rfl)); omega, fun k h => by rw [hPa]; exact .inr ((hx k).2 h)⟩
          have HAB := Lib.hid hab; have HBA_ := Lib.hid hba
          have HOA : Hid (∀ k, Pa.O k → w8.heap.size ≤ k) := Lib.hid fun k h => ((hx k).1 h).1
          have HOB : Hid (∀ k, Pb.O k → w8.heap.size ≤ k) := Lib.hid fun k h => by have := ((hx k).2 h).1; omega
          have hne : ¬ bb = ba := fun e => HAB.out.1 (by rw [hpbb, e]; exact .inl hpab.symm)
          have BEL := Lib.hid (fun wz (hf : Fr (fun k => w8.heap.size ≤ k) w10 wz) => B8.out.trans (hf.below (B := w8.heap.size) (by omega) (fun k hk => hk)))
          obtain ⟨vma, vsa, vca, via, voa, sva, hA10⟩ := hA10
          have e0 := hA10.c0; have e1 := hA10.c1; have f0 := hA10.frozen 0; have f1 := hA10.frozen 1
          rw [hpab, hpao] at e0 e1; rw [hpab] at f0 f1
          rw [Nat.zero_add] at e1
          have HA10 := Lib.hid hA10
          clear hx hab hba hcl hb HAz hPa hPb hA10 B89
          go_upto_region 12 with fail
          refine wp_nameY ?_
          intro w11 hw11
          have hA11 := (HA10.out.setPc 1).setDir (-1)
          rw [hpab, hpao, Nat.zero_add] at hA11
          rw [← hw11] at hA11
          have hfa : Fr Pa.O w10 w11 := by rw [hw11]; exact Fr.set (p := ⟨ba, 1, none⟩) (Fr.set (p := ⟨ba, 0, none⟩) (Fr.refl _ _) (.inl hpab.symm) _) (.inl hpab.symm) _
          have HA11 := Lib.hid (show MOn w11 Pa ((m0 M).at_ 1 (-1)) _ _ _ _ _ _ from hA11)
          have HB11 := Lib.hid (HB10.out.other hfa HAB.out.1 HAB.out.2.1 HAB.out.2.2.1 HAB.out.2.2.2)
          have HF11 := Lib.hid (hfa.mono HOA.out)
          have zw11 := hfa.size
          have k7lt : w3.heap.size + 1 < w8.heap.size := HK7.out.lt
          have k8lt : b8 < w8.heap.size := HK8.out.lt
          replace HK7 := Lib.hid (HK7.out.next (BEL.out _ HF11.out)); replace HK8 := Lib.hid (HK8.out.next (BEL.out _ HF11.out))
          clear hw11 hA11 hfa e0 e1 f0 f1 HB10 HA10
          refine wp_region_held_drew (S := fun W => Fr (fun k => w8.heap.size ≤ k) w11 W) (by kernel_rfl) ((Fr.refl _ _).drew) (fun hH => ?_)
          have hX : Below w11.heap.size w11 w11.drew := (Below.refl _ _).drew
          refine wpAnyH_take (i := 0) (v := ?_) rfl (by kernel_rfl) (by kernel_rfl) (by kernel_rfl) (fun _ _ _ h => h) (Or.inl ⟨by rfl, ?hy⟩) hH ?_
          case hy => (intro w9_ hS9; have T7 := (hS9.blk HK7.out (show ¬ w8.heap.size ≤ w3.heap.size + 1 by omega)).cell; have T8 := (hS9.blk HK8.out (show ¬ w8.heap.size ≤ b8 by omega)).cell; clear hS9; go_simp; try with_reducible rfl)
          (try simp only [Bk.PU, Act.put])
          refine wpAnyH_take (i := 1) (v := ?_) rfl (by kernel_rfl) (by kernel_rfl) (by kernel_rfl) (fun _ _ _ h => h) (Or.inl ⟨by rfl, ?hy⟩) hH ?_
          case hy => (intro w9_ hS9; clear hS9; go_simp; try with_reducible rfl)
          (try simp only [Bk.PU, Act.put])
          refine wpAnyH_take (i := 3) (v := ?_) rfl (by kernel_rfl) (by kernel_rfl) (by kernel_rfl) (fun _ _ _ h => h) (Or.inl ⟨by rfl, ?hy⟩) hH ?_
          case hy => (intro w9_ hS9; have T7 := (hS9.blk HK7.out (show ¬ w8.heap.size ≤ w3.heap.size + 1 by omega)).cell; have T8 := (hS9.blk HK8.out (show ¬ w8.heap.size ≤ b8 by omega)).cell; clear hS9; go_simp; try with_reducible rfl)
          (try simp only [Bk.PU, Act.put])
          refine wpAnyH_take (i := 4) (v := ?_) rfl (by kernel_rfl) (by kernel_rfl) (by kernel_rfl) (fun _ _ _ h => h) (Or.inl ⟨by rfl, ?hy⟩) hH ?_
          case hy => (intro w9_ hS9; clear hS9; go_simp; try with_reducible rfl)
          (try simp only [Bk.PU, Act.put])
          refine wpAnyH_ready (rs := [2]) (by kernel_rfl) (by simp) ?_
          refine AllReadyH.cons rfl (fun K hK => ?_) (AllReadyH.nil)
          go_simp
          have hs := c_Step (HA11.out.next hX) 1 ⟨[⟨op, a, b, c, d⟩], im.mem, im.stacks⟩ (Env.old (rd_one HG1.out) HW1.out (HT.out.next hB_w8) (by show 1 ≤ 65536; decide) (BEL.out _ (HF11.out.next hX)) (fun k hk ho => by have := HOA.out k ho; omega)) HCK.out HFA.out HBA.out
          rw [hpab, hpao] at hs
          refine (OnM.of hs HSA.out.symm).mono ?_
          rintro e w12 ⟨rfl, hA12, hf12⟩
          have HA12 := Lib.hid hA12; have HB12 := Lib.hid ((HB11.out.next hX).other hf12 HAB.out.1 HAB.out.2.1 HAB.out.2.2.1 HAB.out.2.2.2)
          have HF12 := Lib.hid ((HF11.out.next hX).trans (hf12.mono HOA.out))
          replace hH := hH.trans (hf12.mono HOA.out)
          clear hA12 hf12 hs
          refine hK.out _ _ hH (fun _ => ?_)
          clear hK
          (try simp only [Bk.PU, Act.put])
          refine wpAnyH_ready (rs := [5]) (by kernel_rfl) (by simp) ?_
          refine AllReadyH.cons rfl (fun K hK => ?_) (AllReadyH.nil)
          go_simp
          obtain ⟨_, _, _, _, _, _, hB⟩ := HB12.out
          have hs := c_Step hB 1 ⟨[⟨inv op, a, b, c, d⟩], im.mem, im.stacks⟩ (Env.old (rd_one HG8.out) HW2.out (HT.out.next hB_w8) (by show 1 ≤ 65536; decide) (BEL.out _ HF12.out) (fun k hk ho => by have := HOB.out k ho; omega)) HCK2.out HFB.out HBD.out
          rw [hpbb, hpbo] at hs
          refine (OnM.of hs HSB.out.symm).mono ?_
          rintro e w13 ⟨rfl, hB13, hf13⟩
          have HB13 := Lib.hid hB13; have HA13 := Lib.hid (HA12.out.other hf13 HBA_.out.1 HBA_.out.2.1 HBA_.out.2.2.1 HBA_.out.2.2.2)
          have HF13 := Lib.hid (HF12.out.trans (hf13.mono HOB.out))
          replace hH := hH.trans (hf13.mono HOB.out)
          clear hB13 hf13 hs hB
          refine hK.out _ _ hH (fun _ => ?_)
          clear hK
          (try simp only [Bk.PU, Act.put])
          refine wpAnyH_take (i := 6) (v := ?_) rfl (by kernel_rfl) (by kernel_rfl) (by kernel_rfl) (fun _ _ _ h => h) (Or.inl ⟨by rfl, ?hy⟩) hH ?_
          case hy => (intro w9_ hS9; clear hS9; go_simp; try with_reducible rfl)
          (try simp only [Bk.PU, Act.put])
          refine wpAnyH_take (i := 7) (v := ?_) rfl (by kernel_rfl) (by kernel_rfl) (by kernel_rfl) (fun _ _ _ h => h) (Or.inl ⟨by rfl, ?hy⟩) hH ?_
          case hy => (intro w9_ hS9; clear hS9; go_simp; try with_reducible rfl)
          (try simp only [Bk.PU, Act.put])
          refine wpAnyH_done (by kernel_rfl) ?_ _
          obtain ⟨vmb, vsb, vcb, vib, vob, svb, hB13⟩ := HB13.out
          obtain ⟨vma, vsa, vca, via, voa, sva, hA13⟩ := HA13.out
          have e0 := hB13.c0; have e1 := hB13.c1; have f0 := hA13.frozen 0; have f1 := hA13.frozen 1; have d0 := hA13.c0; have d1 := hA13.c1
          rw [hpbb, hpbo] at e0 e1; rw [hpab] at f0 f1; rw [hpab, hpao] at d0 d1
          rw [Nat.zero_add] at e1 d1
          dsimp only at e0 e1 d0 d1
          have HA13' := Lib.hid hA13
          have q1 : (ea != ea) = false := by simp
          have hF13 := HF13.out
          clear hB13 hA13 hF13 hH hX HA11 HB11 HA12 HB12 HF12 HA13
          go_upto_region 15 with fail
          go_region
          go_wp2_with fail
          refine calls_nameY ?_
          intro w14 hw14
          have hA14 := (HA13'.out.setPc NB.pc).setDir NB.dir
          rw [hpab, hpao, Nat.zero_add] at hA14
          have hA14' := hA14.matE (w' := w14) (by rw [hw14]; rfl)
          have hA15 : MAt w14 Pa NB := by have h : MAt w14 Pa (NA.at_ NB.pc NB.dir) := hA14'; rw [HN.out] at h; exact h
          have hfz : Fr Pa.O w13 w14 := by rw [hw14]; exact (Fr.set (p := ⟨ba, 1, none⟩) (Fr.set (p := ⟨ba, 0, none⟩) (Fr.refl _ _) (.inl hpab.symm) _) (.inl hpab.symm) _).drew
          have HF14 := Lib.hid (HF13.out.trans (hfz.mono HOA.out))
          obtain ⟨_, _, _, _, _, _, hA⟩ := MAt.rd hA15
          obtain ⟨_, _, _, _, _, _, hB⟩ := MAt.rd (HB13.out.other hfz HAB.out.1 HAB.out.2.1 HAB.out.2.2.1 HAB.out.2.2.2)
          rw [hpab, hpao] at hA
          rw [hpbb, hpbo] at hB
          have HAr := Lib.hid hA; have HBr := Lib.hid hB
          clear hA hB hA14 hA14' hA15 hfz hw14 e0 e1 f0 f1 d0 d1
          refine (c_EqualT HAr.out HBr.out HBN.out).mono ?_
          rintro e w15 ⟨rfl, hb15⟩
          have hB_w15 := (hB_w8.next (BEL.out _ HF14.out)).next hb15
          go_wp2_with fail
          go_ret
          exact ⟨rfl, hB_w15⟩
end Go.Proofs.YteocbllbljeajaaDoor
