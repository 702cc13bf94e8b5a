/- The walk of the law CpuNew. -/
import Derived.Test.YtmccbgnonmgbeaaDoorZLwNa
set_option linter.unusedVariables false
set_option linter.unusedSimpArgs false
namespace Go.Proofs.YtmccbgnonmgbeaaDoor
open Go.RowKit Bk
set_option maxRecDepth 100000 in
set_option maxHeartbeats 8000000 in
theorem c_lawCpuNew (A : Option Addr) (n cap : Nat) (im : Img) (v : Value) (l : List Int) (w : World) (hC : Rd w (· < w.heap.size) 5 A n (codeCells im.code)) (hw : CodeWf im.code) (hI : Sl w (· < w.heap.size) 1 v l.length (intCells l)) (hl : ∀ x ∈ l, I64 x) (hTab : TableAt w) :
    Calls Tryd.prog 10 #[.agg #[.slice A n cap, .int .i64 im.mem, .int .i64 im.stacks], v] w fun e w' => e = .returned (.bool true) ∧ Below w.heap.size w w' := by
  have hn : n = im.code.length := by have := hC.1; rw [codeCells_length] at this; omega
  have HI := Lib.hid hI
  obtain ⟨Ai, ci, rfl, _⟩ := hI
  have HC := Lib.hid hC; have HT := Lib.hid hTab; have HN := Lib.hid hn; have HL := Lib.hid hl
  clear hC hTab hn hl
  go_enter Tryd.func10, Tryd.ntmps10
  go_upto_region 1 with fail
  refine wp_nameY ?_
  intro w1 hw1
  have hB_w1 : Below w.heap.size w w1 := by rw [hw1]; exact (by repeat' (first | (with_reducible assumption) | (with_reducible exact Below.refl _ _) | (with_reducible refine Below.alloc ?_ ?_ _) | (with_reducible refine Bk.drewN_ ?_ _) | (with_reducible refine Below.drew ?_) | (with_reducible refine Below.setCell ?_ ?_ _) | go_size))
  have K_1 : Blk w1 w.heap.size 24 #[.slice A n cap, .int .i64 im.mem, .int .i64 im.stacks] := by rw [hw1]; exact (by repeat' (first | with_reducible assumption | (refine Blk.new' ?_ _ _; simp; done) | refine Blk.alloc ?_ _ | refine Blk.drewN ?_ _ | refine Blk.drew ?_))
  have zz : w1.heap.size = w.heap.size + 1 := by rw [hw1]; simp
  clear hw1
  obtain ⟨z_1, T_1, F_1⟩ := K_1.open_; have H_1 := Lib.hid K_1; clear K_1
  go_wp2_with fail
  refine (c_awake24 _ (HT.out.next hB_w1)).mono ?_
  rintro e w2 ⟨rfl, hb2⟩
  have hB_w2 := hB_w1.next hb2
  have K_1 : Blk w2 (w.heap.size) 24 #[.slice A n cap, .int .i64 im.mem, .int .i64 im.stacks] := Blk.next (by repeat' (first | with_reducible exact H_1.out | with_reducible exact K0_1 | (refine Blk.new' ?_ _ _; simp; done) | with_reducible refine Blk.alloc ?_ _ | with_reducible refine Blk.drewN ?_ _ | with_reducible refine Blk.drew ?_)) hb2; (try clear H_1); (try clear T_1); (try clear z_1); (try clear F_1); obtain ⟨z_1, T_1, F_1⟩ := K_1.open_; have H_1 := Lib.hid K_1; clear K_1
  have z2 := hb2.size
  clear hb2
  cases t0 : decide ((100 : Int) < (n : Int)) with
  | true =>
    go_wp2_with fail
    refine (c_awake24 _ (HT.out.next hB_w2)).mono ?_
    rintro e w3 ⟨rfl, hb3⟩
    have hB_w3 := hB_w2.next hb3
    go_wp2_with fail
    go_ret
    exact ⟨rfl, hB_w3⟩
  | false =>
  cases t1 : decide ((200 : Int) < im.mem) with
  | true =>
    go_wp2_with fail
    refine (c_awake24 _ (HT.out.next hB_w2)).mono ?_
    rintro e w3 ⟨rfl, hb3⟩
    have hB_w3 := hB_w2.next hb3
    go_wp2_with fail
    go_ret
    exact ⟨rfl, hB_w3⟩
  | false =>
  cases t2 : decide ((200 : Int) < im.stacks) with
  | true =>
    go_wp2_with fail
    refine (c_awake24 _ (HT.out.next hB_w2)).mono ?_
    rintro e w3 ⟨rfl, hb3⟩
    have hB_w3 := hB_w2.next hb3
    go_wp2_with fail
    go_ret
    exact ⟨rfl, hB_w3⟩
  | false =>
  cases t3 : decide ((5000 : Int) < (l.length : Int)) with
  | true =>
    go_wp2_with fail
    refine (c_awake24 _ (HT.out.next hB_w2)).mono ?_
    rintro e w3 ⟨rfl, hb3⟩
    have hB_w3 := hB_w2.next hb3
    go_wp2_with fail
    go_ret
    exact ⟨rfl, hB_w3⟩
  | false =>
  go_wp2_with fail
  obtain ⟨u, hu⟩ : ∃ u, im.valid = u := ⟨_, rfl⟩
  have HU := Lib.hid hu
  clear hu t0 t1 t2 t3
  cases u with
  | false =>
    refine (c_NewBad HU.out (HC.out.next hB_w2) hw (HT.out.next hB_w2) _).mono ?_
    rintro e w3 ⟨rfl, hb3⟩
    have hB_w3 := hB_w2.next hb3
    have z3 := hb3.size
    have K_1 : Blk w3 (w.heap.size) 24 #[.slice A n cap, .int .i64 im.mem, .int .i64 im.stacks] := Blk.next (by repeat' (first | with_reducible exact H_1.out | with_reducible exact K0_1 | (refine Blk.new' ?_ _ _; simp; done) | with_reducible refine Blk.alloc ?_ _ | with_reducible refine Blk.drewN ?_ _ | with_reducible refine Blk.drew ?_)) hb3; (try clear H_1); (try clear T_1); (try clear z_1); (try clear F_1); obtain ⟨z_1, T_1, F_1⟩ := K_1.open_; have H_1 := Lib.hid K_1; clear K_1
    clear hb3
    go_upto_region 4 with (refine wpList_store_row rfl 30 (.tmp 5) (.tmp 36) rfl w3.heap.size #[.int .i64 0, .int .i64 0, .int .i64 0, .int .i64 0, .int .i64 0, .int .i64 0, .int .i64 0, .int .i64 0, .int .i64 0, .int .i64 0, .int .i64 0, .int .i64 0, .int .i64 0, .int .i64 0, .int .i64 0, .int .i64 0, .int .i64 0, .int .i64 0, .slice none 0 0, .slice none 0 0, .slice none 0 0, .int .i64 0, .int .i64 0, .slice none 0 0, .slice none 0 0] rfl rfl 30 #[.int .i64 0, .int .i64 0, .int .i64 0, .int .i64 0, .int .i64 0, .int .i64 0, .int .i64 0, .int .i64 0, .int .i64 0, .int .i64 0, .int .i64 0, .int .i64 0, .int .i64 0, .int .i64 0, .int .i64 0, .int .i64 0, .int .i64 0, .int .i64 0, .slice none 0 0, .slice none 0 0, .slice none 0 0, .int .i64 0, .int .i64 0, .slice none 0 0, .slice none 0 0] (heap_alloc_new w3 _) (by rw [info_mach25]; rfl) rfl (by simp [Value.oneCell']) ?_; (try simp only [Act.put, List.setIfInBounds_toArray, List.set_cons_zero, List.set_cons_succ]))
    refine wp_nameY ?_
    intro w4 hw4
    rw [World.setRow_alloc_new] at hw4
    have hb4 : Below w3.heap.size w3 w4 := by rw [hw4]; exact (by repeat' (first | (with_reducible assumption) | (with_reducible exact Below.refl _ _) | (with_reducible refine Below.alloc ?_ ?_ _) | (with_reducible refine Bk.drewN_ ?_ _) | (with_reducible refine Below.drew ?_) | (with_reducible refine Below.setCell ?_ ?_ _) | go_size))
    have KM : Blk w4 w3.heap.size 30 (mcells zeroM (.slice none 0 0) (.slice none 0 0) (.slice none 0 0) (.slice none 0 0) (.slice none 0 0)).toArray := by rw [hw4]; exact Blk.new _ _ _
    have HZ := Lib.hid ((zero_mls w4).at_ KM)
    have hB_w4 := hB_w3.next hb4
    clear hw4 KM
    have K_1 : Blk w4 (w.heap.size) 24 #[.slice A n cap, .int .i64 im.mem, .int .i64 im.stacks] := Blk.next (by repeat' (first | with_reducible exact H_1.out | with_reducible exact K0_1 | (refine Blk.new' ?_ _ _; simp; done) | with_reducible refine Blk.alloc ?_ _ | with_reducible refine Blk.drewN ?_ _ | with_reducible refine Blk.drew ?_)) hb4; (try clear H_1); (try clear T_1); (try clear z_1); (try clear F_1); obtain ⟨z_1, T_1, F_1⟩ := K_1.open_; have H_1 := Lib.hid K_1; clear K_1
    clear hb4
    go_wp2_with fail
    refine (c_imValid' A n cap im HU.out _ (HC.out.next hB_w4) hw (HT.out.next hB_w4)).mono ?_
    rintro e w5 ⟨rfl, hb5⟩
    have hB_w5 := hB_w4.next hb5
    replace HZ := Lib.hid (HZ.out.next hb5)
    have K_1 : Blk w5 (w.heap.size) 24 #[.slice A n cap, .int .i64 im.mem, .int .i64 im.stacks] := Blk.next (by repeat' (first | with_reducible exact H_1.out | with_reducible exact K0_1 | (refine Blk.new' ?_ _ _; simp; done) | with_reducible refine Blk.alloc ?_ _ | with_reducible refine Blk.drewN ?_ _ | with_reducible refine Blk.drew ?_)) hb5; (try clear H_1); (try clear T_1); (try clear z_1); (try clear F_1); obtain ⟨z_1, T_1, F_1⟩ := K_1.open_; have H_1 := Lib.hid K_1; clear K_1
    clear hb5
    go_wp2_with (refine wpList_loadG 30 rfl rfl rfl (load_mach HZ.out) ?_; simp only [Act.put, List.setIfInBounds_toArray, List.set_cons_succ, List.set_cons_zero])
    refine (c_REqT (zero_mls _) (zero_mls _) zero_bd).mono ?_
    rintro e w6 ⟨rfl, hb6⟩
    have hB_w6 := hB_w5.next hb6
    have K_1 : Blk w6 (w.heap.size) 24 #[.slice A n cap, .int .i64 im.mem, .int .i64 im.stacks] := Blk.next (by repeat' (first | with_reducible exact H_1.out | with_reducible exact K0_1 | (refine Blk.new' ?_ _ _; simp; done) | with_reducible refine Blk.alloc ?_ _ | with_reducible refine Blk.drewN ?_ _ | with_reducible refine Blk.drew ?_)) hb6; (try clear H_1); (try clear T_1); (try clear z_1); (try clear F_1); obtain ⟨z_1, T_1, F_1⟩ := K_1.open_; have H_1 := Lib.hid K_1; clear K_1
    clear hb6
    go_wp2_with fail
    refine (c_FitsBad HU.out (HC.out.next hB_w6) hw (HT.out.next hB_w6) _).mono ?_
    rintro e w7 ⟨rfl, hb7⟩
    have hB_w7 := hB_w6.next hb7
    go_wp2_with fail
    go_ret
    exact ⟨rfl, hB_w7⟩
  | true =>
    cases t4 : decide ((4096 : Int) < (l.length : Int)) with
    | true =>
      refine (c_NewFull HU.out (HC.out.next hB_w2) hw (HT.out.next hB_w2) (HI.out.upD (fun _ h => h) hB_w2) (by simp at t4; omega)).mono ?_
      rintro e w3 ⟨rfl, hb3⟩
      have hB_w3 := hB_w2.next hb3
      have z3 := hb3.size
      have K_1 : Blk w3 (w.heap.size) 24 #[.slice A n cap, .int .i64 im.mem, .int .i64 im.stacks] := Blk.next (by repeat' (first | with_reducible exact H_1.out | with_reducible exact K0_1 | (refine Blk.new' ?_ _ _; simp; done) | with_reducible refine Blk.alloc ?_ _ | with_reducible refine Blk.drewN ?_ _ | with_reducible refine Blk.drew ?_)) hb3; (try clear H_1); (try clear T_1); (try clear z_1); (try clear F_1); obtain ⟨z_1, T_1, F_1⟩ := K_1.open_; have H_1 := Lib.hid K_1; clear K_1
      clear hb3
      go_upto_region 4 with (refine wpList_store_row rfl 30 (.tmp 5) (.tmp 36) rfl w3.heap.size #[.int .i64 0, .int .i64 0, .int .i64 0, .int .i64 0, .int .i64 0, .int .i64 0, .int .i64 0, .int .i64 0, .int .i64 0, .int .i64 0, .int .i64 0, .int .i64 0, .int .i64 0, .int .i64 0, .int .i64 0, .int .i64 0, .int .i64 0, .int .i64 0, .slice none 0 0, .slice none 0 0, .slice none 0 0, .int .i64 0, .int .i64 0, .slice none 0 0, .slice none 0 0] rfl rfl 30 #[.int .i64 0, .int .i64 0, .int .i64 0, .int .i64 0, .int .i64 0, .int .i64 0, .int .i64 0, .int .i64 0, .int .i64 0, .int .i64 0, .int .i64 0, .int .i64 0, .int .i64 0, .int .i64 0, .int .i64 0, .int .i64 0, .int .i64 0, .int .i64 0, .slice none 0 0, .slice none 0 0, .slice none 0 0, .int .i64 0, .int .i64 0, .slice none 0 0, .slice none 0 0] (heap_alloc_new w3 _) (by rw [info_mach25]; rfl) rfl (by simp [Value.oneCell']) ?_; (try simp only [Act.put, List.setIfInBounds_toArray, List.set_cons_zero, List.set_cons_succ]))
      refine wp_nameY ?_
      intro w4 hw4
      rw [World.setRow_alloc_new] at hw4
      have hb4 : Below w3.heap.size w3 w4 := by rw [hw4]; exact (by repeat' (first | (with_reducible assumption) | (with_reducible exact Below.refl _ _) | (with_reducible refine Below.alloc ?_ ?_ _) | (with_reducible refine Bk.drewN_ ?_ _) | (with_reducible refine Below.drew ?_) | (with_reducible refine Below.setCell ?_ ?_ _) | go_size))
      have KM : Blk w4 w3.heap.size 30 (mcells zeroM (.slice none 0 0) (.slice none 0 0) (.slice none 0 0) (.slice none 0 0) (.slice none 0 0)).toArray := by rw [hw4]; exact Blk.new _ _ _
      have HZ := Lib.hid ((zero_mls w4).at_ KM)
      have hB_w4 := hB_w3.next hb4
      clear hw4 KM
      have K_1 : Blk w4 (w.heap.size) 24 #[.slice A n cap, .int .i64 im.mem, .int .i64 im.stacks] := Blk.next (by repeat' (first | with_reducible exact H_1.out | with_reducible exact K0_1 | (refine Blk.new' ?_ _ _; simp; done) | with_reducible refine Blk.alloc ?_ _ | with_reducible refine Blk.drewN ?_ _ | with_reducible refine Blk.drew ?_)) hb4; (try clear H_1); (try clear T_1); (try clear z_1); (try clear F_1); obtain ⟨z_1, T_1, F_1⟩ := K_1.open_; have H_1 := Lib.hid K_1; clear K_1
      clear hb4
      go_wp2_with fail
      refine (c_imValid' A n cap im HU.out _ (HC.out.next hB_w4) hw (HT.out.next hB_w4)).mono ?_
      rintro e w5 ⟨rfl, hb5⟩
      have hB_w5 := hB_w4.next hb5
      replace HZ := Lib.hid (HZ.out.next hb5)
      have K_1 : Blk w5 (w.heap.size) 24 #[.slice A n cap, .int .i64 im.mem, .int .i64 im.stacks] := Blk.next (by repeat' (first | with_reducible exact H_1.out | with_reducible exact K0_1 | (refine Blk.new' ?_ _ _; simp; done) | with_reducible refine Blk.alloc ?_ _ | with_reducible refine Blk.drewN ?_ _ | with_reducible refine Blk.drew ?_)) hb5; (try clear H_1); (try clear T_1); (try clear z_1); (try clear F_1); obtain ⟨z_1, T_1, F_1⟩ := K_1.open_; have H_1 := Lib.hid K_1; clear K_1
      clear hb5
      go_wp2_with (refine wpList_loadG 30 rfl rfl rfl (load_mach HZ.out) ?_; simp only [Act.put, List.setIfInBounds_toArray, List.set_cons_succ, List.set_cons_zero])
      refine (c_REqT (zero_mls _) (zero_mls _) zero_bd).mono ?_
      rintro e w6 ⟨rfl, hb6⟩
      have hB_w6 := hB_w5.next hb6
      have K_1 : Blk w6 (w.heap.size) 24 #[.slice A n cap, .int .i64 im.mem, .int .i64 im.stacks] := Blk.next (by repeat' (first | with_reducible exact H_1.out | with_reducible exact K0_1 | (refine Blk.new' ?_ _ _; simp; done) | with_reducible refine Blk.alloc ?_ _ | with_reducible refine Blk.drewN ?_ _ | with_reducible refine Blk.drew ?_)) hb6; (try clear H_1); (try clear T_1); (try clear z_1); (try clear F_1); obtain ⟨z_1, T_1, F_1⟩ := K_1.open_; have H_1 := Lib.hid K_1; clear K_1
      clear hb6
      go_wp2_with fail
      go_ret
      exact ⟨rfl, hB_w6⟩
    | false =>
      have hck : im.check.2 = 0 := by have := HU.out; unfold Img.valid at this; exact of_decide_eq_true this
      have hl4 : l.length ≤ 4096 := by simp at t4; omega
      have HCK := Lib.hid hck
      have HL6 : Hid (im.code.length ≤ 65536) := Lib.hid (by have := (check_fault hck).1; unfold Img.sized at this; simp only [Bool.and_eq_true, decide_eq_true_eq] at this; exact this.1.1)
      have hz := (check_fault hck).1
      unfold Img.sized at hz
      simp only [Bool.and_eq_true, decide_eq_true_eq] at hz
      have hm1 : ((im.mem.toNat : Nat) : Int) = im.mem := by omega
      have hs1 : ((im.stacks.toNat : Nat) : Int) = im.stacks := by omega
      obtain ⟨mm, hmm⟩ : ∃ k, im.mem.toNat = k := ⟨_, rfl⟩
      obtain ⟨ss, hss⟩ : ∃ k, im.stacks.toNat = k := ⟨_, rfl⟩
      have hm2 : mm ≤ 16384 := by omega
      have hs2 : ss ≤ 16384 := by omega
      rw [hmm] at hm1; rw [hss] at hs1
      obtain ⟨i0, hi0, hz0, hs0, hb0⟩ := info_parts info_ints
      have mkS : ∀ W : World, (Instr.makeSlice 27 (.int .i64 im.stacks) (.int .i64 im.stacks)).run Tryd.prog W = .ok (.slice (some ⟨W.heap.size, 0, none⟩) ss ss) (W.alloc (.cells (madeCells #[.slice none 0 0] ss) 26)) := fun W => by
        have := run_make_rowN (P := Tryd.prog) 27 26 i0 _ Tryd.underlying27 hi0 hz0 .i64 .i64 ss ss (Nat.le_refl _) (by rw [hb0]; omega) (by omega) W
        rw [hs0, Nat.mul_one, hs1] at this; exact this
      obtain ⟨i1, hi1, hz1, hsz1, hb1⟩ := info_parts info_int8
      have mkM : ∀ W : World, (Instr.makeSlice 26 (.int .i64 im.mem) (.int .i64 im.mem)).run Tryd.prog W = .ok (.slice (some ⟨W.heap.size, 0, none⟩) mm mm) (W.alloc (.cells (madeCells #[.int .i64 0] mm) 3)) := fun W => by
        have := run_make_rowN (P := Tryd.prog) 26 3 i1 _ Tryd.underlying26 hi1 hz1 .i64 .i64 mm mm (Nat.le_refl _) (by rw [hb1]; omega) (by omega) W
        rw [hsz1, Nat.mul_one, hm1] at this; exact this
      have MKS := Lib.hid mkS; have MKM := Lib.hid mkM
      clear hi0 hz0 hs0 hb0 hi1 hz1 hsz1 hb1 hz mkS mkM
      have hfit := newM_fit hck HL.out hl4
      have hbd := newM_bd hck HL.out hl4
      have hN := c_NewI (cap := cap) (im := im) hck (HC.out.next hB_w2) hw (HT.out.next hB_w2) (HI.out.upD (fun _ h => h) hB_w2) (fun k hk => Nat.lt_of_lt_of_le hk hB_w2.size) hl4
      rw [hmm, hss] at hfit hbd hN
      have HFIT := Lib.hid hfit; have HBD := Lib.hid hbd
      refine hN.mono ?_
      rintro e w3 ⟨vm, vs, vi, sv, rfl, hO, hb3⟩
      have hB_w3 := hB_w2.next hb3
      have z3 := hb3.size
      have hO' := hO.mls
      obtain ⟨Am, cm, rfl, _⟩ := hO'.m; obtain ⟨Av, cv, rfl, _⟩ := hO'.s; obtain ⟨A2, c2, rfl, _⟩ := hO'.l.2.2.1
      have HO := Lib.hid hO
      have HLEN := Lib.hid (mc_len (newM mm ss l) (.slice Am (newM mm ss l).m.length cm) (.slice Av (newM mm ss l).s.length cv) (.slice none 0 0) (.slice A2 (newM mm ss l).inp.length c2) (.slice none 0 0) hO.1)
      have K_1 : Blk w3 (w.heap.size) 24 #[.slice A n cap, .int .i64 im.mem, .int .i64 im.stacks] := Blk.next (by repeat' (first | with_reducible exact H_1.out | with_reducible exact K0_1 | (refine Blk.new' ?_ _ _; simp; done) | with_reducible refine Blk.alloc ?_ _ | with_reducible refine Blk.drewN ?_ _ | with_reducible refine Blk.drew ?_)) hb3; (try clear H_1); (try clear T_1); (try clear z_1); (try clear F_1); obtain ⟨z_1, T_1, F_1⟩ := K_1.open_; have H_1 := Lib.hid K_1; clear K_1
      clear hb3 hO hO' hck hfit hbd hN
      go_upto_region 4 with (refine wpList_store_row rfl 30 (.tmp 5) (.tmp 36) rfl w3.heap.size _ rfl rfl 30 #[.int .i64 0, .int .i64 0, .int .i64 0, .int .i64 0, .int .i64 0, .int .i64 0, .int .i64 0, .int .i64 0, .int .i64 0, .int .i64 0, .int .i64 0, .int .i64 0, .int .i64 0, .int .i64 0, .int .i64 0, .int .i64 0, .int .i64 0, .int .i64 0, .slice none 0 0, .slice none 0 0, .slice none 0 0, .int .i64 0, .int .i64 0, .slice none 0 0, .slice none 0 0] (heap_alloc_new w3 _) (by rw [info_mach25]; simp [HLEN.out]) (by simp [HLEN.out]) (all_oneCell_toArray (mc_one rfl rfl rfl rfl rfl)) ?_; (try simp only [Act.put, List.setIfInBounds_toArray, List.set_cons_zero, List.set_cons_succ]))
      refine wp_nameY ?_
      intro w4 hw4
      rw [World.setRow_alloc_new] at hw4
      have hb4 : Below w3.heap.size w3 w4 := by rw [hw4]; exact (by repeat' (first | (with_reducible assumption) | (with_reducible exact Below.refl _ _) | (with_reducible refine Below.alloc ?_ ?_ _) | (with_reducible refine Bk.drewN_ ?_ _) | (with_reducible refine Below.drew ?_) | (with_reducible refine Below.setCell ?_ ?_ _) | go_size))
      have KM : Blk w4 w3.heap.size 30 (mcells (newM mm ss l) (.slice Am (newM mm ss l).m.length cm) (.slice Av (newM mm ss l).s.length cv) (.slice none 0 0) (.slice A2 (newM mm ss l).inp.length c2) (.slice none 0 0)).toArray := by rw [hw4]; exact Blk.new _ _ _
      obtain ⟨gm, gs, q1, q2, q3, q4, hm4⟩ := HO.out.on w4 hb4 KM (.inr (Nat.le_refl _))
      have HM := Lib.hid hm4
      have hB_w4 := hB_w3.next hb4
      have z4 : w3.heap.size < w4.heap.size := KM.lt
      clear hw4 KM hm4 HLEN HO
      have K_1 : Blk w4 (w.heap.size) 24 #[.slice A n cap, .int .i64 im.mem, .int .i64 im.stacks] := Blk.next (by repeat' (first | with_reducible exact H_1.out | with_reducible exact K0_1 | (refine Blk.new' ?_ _ _; simp; done) | with_reducible refine Blk.alloc ?_ _ | with_reducible refine Blk.drewN ?_ _ | with_reducible refine Blk.drew ?_)) hb4; (try clear H_1); (try clear T_1); (try clear z_1); (try clear F_1); obtain ⟨z_1, T_1, F_1⟩ := K_1.open_; have H_1 := Lib.hid K_1; clear K_1
      clear hb4
      go_wp2_with fail
      refine (c_imValid' A n cap im HU.out _ (HC.out.next hB_w4) hw (HT.out.next hB_w4)).mono ?_
      rintro e w5 ⟨rfl, hb5⟩
      have hB_w5 := hB_w4.next hb5
      replace HM := Lib.hid (HM.out.next hb5)
      have K_1 : Blk w5 (w.heap.size) 24 #[.slice A n cap, .int .i64 im.mem, .int .i64 im.stacks] := Blk.next (by repeat' (first | with_reducible exact H_1.out | with_reducible exact K0_1 | (refine Blk.new' ?_ _ _; simp; done) | with_reducible refine Blk.alloc ?_ _ | with_reducible refine Blk.drewN ?_ _ | with_reducible refine Blk.drew ?_)) hb5; (try clear H_1); (try clear T_1); (try clear z_1); (try clear F_1); obtain ⟨z_1, T_1, F_1⟩ := K_1.open_; have H_1 := Lib.hid K_1; clear K_1
      have z5 := hb5.size
      clear hb5
      go_wp2_with fail
      have mkS := MKS.out; have mkM := MKM.out
      refine wp_region_held_drew (S := fun w' => Blk w' w.heap.size 24 #[.slice A n cap, .int .i64 im.mem, .int .i64 im.stacks]) (by kernel_rfl) H_1.out.drew (fun hH => ?_)
      refine wpAnyH_take (i := 0) (v := ?_) rfl (by kernel_rfl) (by kernel_rfl) (by kernel_rfl) (fun _ _ _ h => h) (Or.inl ⟨by rfl, ?hy⟩) (by assumption) ?_
      case hy => (intro w9 hS9; have T9 := Blk.cell hS9; clear hS9; go_simp; try with_reducible rfl)
      (try simp only [Act.put, List.setIfInBounds_toArray, List.set_cons_zero, List.set_cons_succ])
      refine wpAnyH_take (i := 1) (v := ?_) rfl (by kernel_rfl) (by kernel_rfl) (by kernel_rfl) (fun _ _ _ h => h) (Or.inl ⟨by rfl, ?hy⟩) (by assumption) ?_
      case hy => (intro w9 hS9; have T9 := Blk.cell hS9; clear hS9; go_simp; try with_reducible rfl)
      (try simp only [Act.put, List.setIfInBounds_toArray, List.set_cons_zero, List.set_cons_succ])
      refine wpAnyH_take (i := 3) (v := ?_) rfl (by kernel_rfl) (by kernel_rfl) (by kernel_rfl) (fun _ _ _ h => h) (Or.inl ⟨by rfl, ?hy⟩) (by assumption) ?_
      case hy => (intro w9 hS9; have T9 := Blk.cell hS9; clear hS9; go_simp; try with_reducible rfl)
      (try simp only [Act.put, List.setIfInBounds_toArray, List.set_cons_zero, List.set_cons_succ])
      refine wpAnyH_take (i := 4) (v := ?_) rfl (by kernel_rfl) (by kernel_rfl) (by kernel_rfl) (fun _ _ _ h => h) (Or.inl ⟨by rfl, ?hy⟩) (by assumption) ?_
      case hy => (intro w9 hS9; have T9 := Blk.cell hS9; clear hS9; go_simp; try with_reducible rfl)
      (try simp only [Act.put, List.setIfInBounds_toArray, List.set_cons_zero, List.set_cons_succ])
      refine wpAnyH_take (i := 6) (v := ?_) rfl (by kernel_rfl) (by kernel_rfl) (by kernel_rfl) (fun _ _ _ h => h) (Or.inl ⟨by rfl, ?hy⟩) (by assumption) ?_
      case hy => (intro w9 hS9; have T9 := Blk.cell hS9; clear hS9; go_simp; try with_reducible rfl)
      (try simp only [Act.put, List.setIfInBounds_toArray, List.set_cons_zero, List.set_cons_succ])
      refine wpAnyH_at ?_
      intro V0 hV0
      have S0 : Blk V0 w.heap.size 24 #[.slice A n cap, .int .i64 im.mem, .int .i64 im.stacks] := by rw [hV0]; exact hH
      have B0 : Below w5.heap.size w5 V0 := by rw [hV0]; exact (by repeat' (first | (with_reducible assumption) | (with_reducible exact Below.refl _ _) | (with_reducible refine Below.alloc ?_ ?_ _) | (with_reducible refine Bk.drewN_ ?_ _) | (with_reducible refine Below.drew ?_) | (with_reducible refine Below.setCell ?_ ?_ _) | go_size))
      clear hH hV0
      refine wpAnyH_ready (rs := [2, 5, 8]) (by kernel_rfl) (by simp) ?_
      refine AllReadyH.cons rfl (fun K hK => ?_) ?_
      · go_simp
        refine hK.out _ _ (S0.alloc _) (fun hH => ?_)
        clear hK
        (try simp only [Act.put, List.setIfInBounds_toArray, List.set_cons_zero, List.set_cons_succ])
        refine wpAnyH_at ?_
        intro V1 hV1
        have b1 : Below V0.heap.size V0 V1 := by rw [hV1]; exact (Below.refl _ _).alloc (Nat.le_refl _) _
        have S1 : Blk V1 w.heap.size 24 #[.slice A n cap, .int .i64 im.mem, .int .i64 im.stacks] := S0.next b1
        have f2 : Row V1 V0.heap.size (.slice (some ⟨V0.heap.size, 0, none⟩) mm mm) (intCells (List.replicate mm 0)) := by rw [hV1]; exact rowMade (by simp [intCells])
        have g2 : V0.heap.size < V1.heap.size := by rw [hV1]; simp
        clear hH hV1
        refine wpAnyH_ready (rs := [5, 8]) (by kernel_rfl) (by simp) ?_
        refine AllReadyH.cons rfl (fun K hK => ?_) ?_
        · go_simp
          refine hK.out _ _ (S1.alloc _) (fun hH => ?_)
          clear hK
          (try simp only [Act.put, List.setIfInBounds_toArray, List.set_cons_zero, List.set_cons_succ])
          refine wpAnyH_at ?_
          intro V2 hV2
          have b2 : Below V1.heap.size V1 V2 := by rw [hV2]; exact (Below.refl _ _).alloc (Nat.le_refl _) _
          have S2 : Blk V2 w.heap.size 24 #[.slice A n cap, .int .i64 im.mem, .int .i64 im.stacks] := S1.next b2
          have f5 : Row V2 V1.heap.size (.slice (some ⟨V1.heap.size, 0, none⟩) ss ss) (List.replicate ss (.slice none 0 0)) := by rw [hV2]; exact rowMade rfl
          have g5 : V1.heap.size < V2.heap.size := by rw [hV2]; simp
          clear hH hV2
          refine wpAnyH_take (i := 7) (v := ?_) rfl (by kernel_rfl) (by kernel_rfl) (by kernel_rfl) (fun _ _ _ h => h) (Or.inl ⟨by rfl, ?hy⟩) (by assumption) ?_
          case hy => (intro w9 hS9; clear hS9; go_simp; try with_reducible rfl)
          (try simp only [Act.put, List.setIfInBounds_toArray, List.set_cons_zero, List.set_cons_succ])
          refine wpAnyH_ready (rs := [8]) (by kernel_rfl) (by simp) ?_
          refine AllReadyH.cons rfl (fun K hK => ?_) ?_
          · go_simp
            refine hK.out _ _ (S2.alloc _) (fun hH => ?_)
            clear hK
            (try simp only [Act.put, List.setIfInBounds_toArray, List.set_cons_zero, List.set_cons_succ])
            refine wpAnyH_at ?_
            intro V3 hV3
            have b3 : Below V2.heap.size V2 V3 := by rw [hV3]; exact (Below.refl _ _).alloc (Nat.le_refl _) _
            have S3 : Blk V3 w.heap.size 24 #[.slice A n cap, .int .i64 im.mem, .int .i64 im.stacks] := S2.next b3
            have f8 : Blk V3 V2.heap.size 30 #[.int .i64 0, .int .i64 0, .int .i64 0, .int .i64 0, .int .i64 0, .int .i64 0, .int .i64 0, .int .i64 0, .int .i64 0, .int .i64 0, .int .i64 0, .int .i64 0, .int .i64 0, .int .i64 0, .int .i64 0, .int .i64 0, .int .i64 0, .int .i64 0, .slice none 0 0, .slice none 0 0, .slice none 0 0, .int .i64 0, .int .i64 0, .slice none 0 0, .slice none 0 0] := by rw [hV3]; exact Blk.new _ _ _
            have g8 : V2.heap.size < V3.heap.size := by rw [hV3]; simp
            clear hH hV3
            have RM := f2.keep (w' := V3) (fun _ => (b2.next b3).block _ g2)
            have RS := f5.keep (w' := V3) (fun _ => b3.block _ g5)
            have KZ := f8.next (Below.refl _ _)
            have bW := (B0.next b1).next (b2.next b3)
            have y1 := b1.size; have y2 := b2.size; have y3 := b3.size; have y0 := B0.size
            have HKZ := Lib.hid KZ; have HRM := Lib.hid RM; have HRS := Lib.hid RS
            clear f2 f5 f8 KZ RM RS
            refine wpAnyH_ready (rs := [9]) (by kernel_rfl) (by simp) ?_
            refine AllReadyH.cons rfl (fun K hK => ?_) (AllReadyH.nil)
            rw [if_pos (by rfl)]
            refine wp_store_row 30 _ _ rfl V2.heap.size _ rfl rfl 30 #[.int .i64 0, .int .i64 0, .int .i64 0, .int .i64 0, .int .i64 0, .int .i64 0, .int .i64 0, .int .i64 0, .int .i64 0, .int .i64 0, .int .i64 0, .int .i64 0, .int .i64 0, .int .i64 0, .int .i64 0, .int .i64 0, .int .i64 0, .int .i64 0, .slice none 0 0, .slice none 0 0, .slice none 0 0, .int .i64 0, .int .i64 0, .slice none 0 0, .slice none 0 0] HKZ.out (by rw [info_mach25]; rfl) rfl (by simp [Value.oneCell']) ?_
            refine hK.out _ _ ((setRow_other _ _ _ _ (by omega)).trans S3) (fun hH => ?_)
            clear hK hH
            (try simp only [Act.put, List.setIfInBounds_toArray, List.set_cons_zero, List.set_cons_succ])
            refine wpAnyH_done (by kernel_rfl) ?_ _
            generalize hw9 : World.setRow _ _ _ = w9
            have BZ : Below w5.heap.size w5 w9 := by rw [← hw9]; exact ((Fr.of bW).trans ((Fr.setRow _ _ _).mono (O' := (· = V2.heap.size)) (fun k hk => hk))).below (Nat.le_refl _) (fun k hk => by omega)
            have KB : Blk w9 V2.heap.size 30 (mcells (newM mm ss l) (.slice (some ⟨V0.heap.size, 0, none⟩) mm mm) (.slice (some ⟨V1.heap.size, 0, none⟩) ss ss) (.slice none 0 0) (.slice Ai l.length ci) (.slice none 0 0)).toArray := by rw [← hw9]; exact setRow_heap _ _ _ _ _ _ HKZ.out
            have zs : V3.heap.size = w9.heap.size := by rw [← hw9]; simp
            have RM : Row w9 V0.heap.size (.slice (some ⟨V0.heap.size, 0, none⟩) mm mm) (intCells (List.replicate mm 0)) := HRM.out.keep fun _ => by rw [← hw9]; exact setRow_other _ _ _ _ (by omega)
            have RS : Row w9 V1.heap.size (.slice (some ⟨V1.heap.size, 0, none⟩) ss ss) (List.replicate ss (.slice none 0 0)) := HRS.out.keep fun _ => by rw [← hw9]; exact setRow_other _ _ _ _ (by omega)
            have ML : MLs w9 (· < w9.heap.size) (newM mm ss l) (.slice (some ⟨V0.heap.size, 0, none⟩) mm mm) (.slice (some ⟨V1.heap.size, 0, none⟩) ss ss) (.slice none 0 0) (.slice Ai l.length ci) (.slice none 0 0) (List.replicate ss (.slice none 0 0)) := by
              have e1 := RM.sl (by omega); have e2 := RS.sl (by omega)
              rw [intCells_length] at e1
              refine ⟨rfl, e1.mono fun k hk => by omega, by have := e2.mono (D' := (· < w9.heap.size)) (fun k hk => by omega); simpa [newM] using this, ⟨⟨by simp [newM], fun k hk => ?_⟩, Sl.nil, (HI.out.upD (fun _ h => h) (hB_w5.next BZ)).mono (fun k hk => by have := hB_w5.size; omega), Sl.nil⟩, fun _ h => h⟩
              simp only [newM, List.length_replicate] at hk
              refine ⟨.slice none 0 0, by rw [List.getElem?_replicate, if_pos hk], ?_⟩
              have e : (newM mm ss l).s.getD k [] = [] := by simp [newM, List.getD_eq_getElem?_getD, List.getElem?_replicate, hk]
              rw [e]; exact Sl.nil
            have HW9 := Lib.hid (ML.at_ KB)
            clear hw9 HKZ HRM HRS RM RS KB ML S0 S1 S2 S3 b1 b2 b3 B0 bW MKS MKM mkS mkM
            replace HM := Lib.hid (HM.out.next BZ)
            have hB_w9 := hB_w5.next BZ
            have K_1 : Blk w9 (w.heap.size) 24 #[.slice A n cap, .int .i64 im.mem, .int .i64 im.stacks] := Blk.next (by repeat' (first | with_reducible exact H_1.out | with_reducible exact K0_1 | (refine Blk.new' ?_ _ _; simp; done) | with_reducible refine Blk.alloc ?_ _ | with_reducible refine Blk.drewN ?_ _ | with_reducible refine Blk.drew ?_)) BZ; (try clear H_1); (try clear T_1); (try clear z_1); (try clear F_1); obtain ⟨z_1, T_1, F_1⟩ := K_1.open_; have H_1 := Lib.hid K_1; clear K_1
            clear BZ
            have HR := Lib.hid HM.out.rd
            go_wp2_with (first | (refine wpList_loadG 30 rfl rfl rfl (load_mach HR.out) ?_; simp only [Act.put, List.setIfInBounds_toArray, List.set_cons_succ, List.set_cons_zero]) | (refine wpList_loadG 30 rfl rfl rfl (load_mach HW9.out) ?_; simp only [Act.put, List.setIfInBounds_toArray, List.set_cons_succ, List.set_cons_zero]))
            refine (c_REqT HR.out.mls HW9.out.mls HBD.out).mono ?_
            rintro e w10 ⟨rfl, hb10⟩
            have hB_w10 := hB_w9.next hb10
            replace HM := Lib.hid (HM.out.next hb10)
            have K_1 : Blk w10 (w.heap.size) 24 #[.slice A n cap, .int .i64 im.mem, .int .i64 im.stacks] := Blk.next (by repeat' (first | with_reducible exact H_1.out | with_reducible exact K0_1 | (refine Blk.new' ?_ _ _; simp; done) | with_reducible refine Blk.alloc ?_ _ | with_reducible refine Blk.drewN ?_ _ | with_reducible refine Blk.drew ?_)) hb10; (try clear H_1); (try clear T_1); (try clear z_1); (try clear F_1); obtain ⟨z_1, T_1, F_1⟩ := K_1.open_; have H_1 := Lib.hid K_1; clear K_1
            clear hb10 HR HW9
            go_wp2_with fail
            have HENV : Env w10 ⟨w3.heap.size, 30, [], [], 0, gm, gs, (· < w2.heap.size)⟩ A n im.code := Env.old HC.out hw HT.out (by have := HL6.out; omega) hB_w10 (fun k hk ho => by rcases ho with e | e | e <;> (dsimp only at e; omega))
            refine (c_FitsT HM.out cap im HENV HCK.out HFIT.out HBD.out).mono ?_
            rintro e w11 ⟨rfl, hb11⟩
            have hB_w11 := hB_w10.next hb11
            go_wp2_with fail
            go_ret
            exact ⟨rfl, hB_w11⟩
          exact AllReadyH.nil
        refine AllReadyH.cons rfl (fun K hK => ?_) ?_
        · go_simp
          refine hK.out _ _ (S1.alloc _) (fun hH => ?_)
          clear hK
          (try simp only [Act.put, List.setIfInBounds_toArray, List.set_cons_zero, List.set_cons_succ])
          refine wpAnyH_at ?_
          intro V2 hV2
          have b2 : Below V1.heap.size V1 V2 := by rw [hV2]; exact (Below.refl _ _).alloc (Nat.le_refl _) _
          have S2 : Blk V2 w.heap.size 24 #[.slice A n cap, .int .i64 im.mem, .int .i64 im.stacks] := S1.next b2
          have f8 : Blk V2 V1.heap.size 30 #[.int .i64 0, .int .i64 0, .int .i64 0, .int .i64 0, .int .i64 0, .int .i64 0, .int .i64 0, .int .i64 0, .int .i64 0, .int .i64 0, .int .i64 0, .int .i64 0, .int .i64 0, .int .i64 0, .int .i64 0, .int .i64 0, .int .i64 0, .int .i64 0, .slice none 0 0, .slice none 0 0, .slice none 0 0, .int .i64 0, .int .i64 0, .slice none 0 0, .slice none 0 0] := by rw [hV2]; exact Blk.new _ _ _
          have g8 : V1.heap.size < V2.heap.size := by rw [hV2]; simp
          clear hH hV2
          refine wpAnyH_ready (rs := [5]) (by kernel_rfl) (by simp) ?_
          refine AllReadyH.cons rfl (fun K hK => ?_) ?_
          · go_simp
            refine hK.out _ _ (S2.alloc _) (fun hH => ?_)
            clear hK
            (try simp only [Act.put, List.setIfInBounds_toArray, List.set_cons_zero, List.set_cons_succ])
            refine wpAnyH_at ?_
            intro V3 hV3
            have b3 : Below V2.heap.size V2 V3 := by rw [hV3]; exact (Below.refl _ _).alloc (Nat.le_refl _) _
            have S3 : Blk V3 w.heap.size 24 #[.slice A n cap, .int .i64 im.mem, .int .i64 im.stacks] := S2.next b3
            have f5 : Row V3 V2.heap.size (.slice (some ⟨V2.heap.size, 0, none⟩) ss ss) (List.replicate ss (.slice none 0 0)) := by rw [hV3]; exact rowMade rfl
            have g5 : V2.heap.size < V3.heap.size := by rw [hV3]; simp
            clear hH hV3
            refine wpAnyH_take (i := 7) (v := ?_) rfl (by kernel_rfl) (by kernel_rfl) (by kernel_rfl) (fun _ _ _ h => h) (Or.inl ⟨by rfl, ?hy⟩) (by assumption) ?_
            case hy => (intro w9 hS9; clear hS9; go_simp; try with_reducible rfl)
            (try simp only [Act.put, List.setIfInBounds_toArray, List.set_cons_zero, List.set_cons_succ])
            have RM := f2.keep (w' := V3) (fun _ => (b2.next b3).block _ g2)
            have RS := f5.keep (w' := V3) (fun _ => (Below.refl _ _).block _ g5)
            have KZ := f8.next b3
            have bW := (B0.next b1).next (b2.next b3)
            have y1 := b1.size; have y2 := b2.size; have y3 := b3.size; have y0 := B0.size
            have HKZ := Lib.hid KZ; have HRM := Lib.hid RM; have HRS := Lib.hid RS
            clear f2 f5 f8 KZ RM RS
            refine wpAnyH_ready (rs := [9]) (by kernel_rfl) (by simp) ?_
            refine AllReadyH.cons rfl (fun K hK => ?_) (AllReadyH.nil)
            rw [if_pos (by rfl)]
            refine wp_store_row 30 _ _ rfl V1.heap.size _ rfl rfl 30 #[.int .i64 0, .int .i64 0, .int .i64 0, .int .i64 0, .int .i64 0, .int .i64 0, .int .i64 0, .int .i64 0, .int .i64 0, .int .i64 0, .int .i64 0, .int .i64 0, .int .i64 0, .int .i64 0, .int .i64 0, .int .i64 0, .int .i64 0, .int .i64 0, .slice none 0 0, .slice none 0 0, .slice none 0 0, .int .i64 0, .int .i64 0, .slice none 0 0, .slice none 0 0] HKZ.out (by rw [info_mach25]; rfl) rfl (by simp [Value.oneCell']) ?_
            refine hK.out _ _ ((setRow_other _ _ _ _ (by omega)).trans S3) (fun hH => ?_)
            clear hK hH
            (try simp only [Act.put, List.setIfInBounds_toArray, List.set_cons_zero, List.set_cons_succ])
            refine wpAnyH_done (by kernel_rfl) ?_ _
            generalize hw9 : World.setRow _ _ _ = w9
            have BZ : Below w5.heap.size w5 w9 := by rw [← hw9]; exact ((Fr.of bW).trans ((Fr.setRow _ _ _).mono (O' := (· = V1.heap.size)) (fun k hk => hk))).below (Nat.le_refl _) (fun k hk => by omega)
            have KB : Blk w9 V1.heap.size 30 (mcells (newM mm ss l) (.slice (some ⟨V0.heap.size, 0, none⟩) mm mm) (.slice (some ⟨V2.heap.size, 0, none⟩) ss ss) (.slice none 0 0) (.slice Ai l.length ci) (.slice none 0 0)).toArray := by rw [← hw9]; exact setRow_heap _ _ _ _ _ _ HKZ.out
            have zs : V3.heap.size = w9.heap.size := by rw [← hw9]; simp
            have RM : Row w9 V0.heap.size (.slice (some ⟨V0.heap.size, 0, none⟩) mm mm) (intCells (List.replicate mm 0)) := HRM.out.keep fun _ => by rw [← hw9]; exact setRow_other _ _ _ _ (by omega)
            have RS : Row w9 V2.heap.size (.slice (some ⟨V2.heap.size, 0, none⟩) ss ss) (List.replicate ss (.slice none 0 0)) := HRS.out.keep fun _ => by rw [← hw9]; exact setRow_other _ _ _ _ (by omega)
            have ML : MLs w9 (· < w9.heap.size) (newM mm ss l) (.slice (some ⟨V0.heap.size, 0, none⟩) mm mm) (.slice (some ⟨V2.heap.size, 0, none⟩) ss ss) (.slice none 0 0) (.slice Ai l.length ci) (.slice none 0 0) (List.replicate ss (.slice none 0 0)) := by
              have e1 := RM.sl (by omega); have e2 := RS.sl (by omega)
              rw [intCells_length] at e1
              refine ⟨rfl, e1.mono fun k hk => by omega, by have := e2.mono (D' := (· < w9.heap.size)) (fun k hk => by omega); simpa [newM] using this, ⟨⟨by simp [newM], fun k hk => ?_⟩, Sl.nil, (HI.out.upD (fun _ h => h) (hB_w5.next BZ)).mono (fun k hk => by have := hB_w5.size; omega), Sl.nil⟩, fun _ h => h⟩
              simp only [newM, List.length_replicate] at hk
              refine ⟨.slice none 0 0, by rw [List.getElem?_replicate, if_pos hk], ?_⟩
              have e : (newM mm ss l).s.getD k [] = [] := by simp [newM, List.getD_eq_getElem?_getD, List.getElem?_replicate, hk]
              rw [e]; exact Sl.nil
            have HW9 := Lib.hid (ML.at_ KB)
            clear hw9 HKZ HRM HRS RM RS KB ML S0 S1 S2 S3 b1 b2 b3 B0 bW MKS MKM mkS mkM
            replace HM := Lib.hid (HM.out.next BZ)
            have hB_w9 := hB_w5.next BZ
            have K_1 : Blk w9 (w.heap.size) 24 #[.slice A n cap, .int .i64 im.mem, .int .i64 im.stacks] := Blk.next (by repeat' (first | with_reducible exact H_1.out | with_reducible exact K0_1 | (refine Blk.new' ?_ _ _; simp; done) | with_reducible refine Blk.alloc ?_ _ | with_reducible refine Blk.drewN ?_ _ | with_reducible refine Blk.drew ?_)) BZ; (try clear H_1); (try clear T_1); (try clear z_1); (try clear F_1); obtain ⟨z_1, T_1, F_1⟩ := K_1.open_; have H_1 := Lib.hid K_1; clear K_1
            clear BZ
            have HR := Lib.hid HM.out.rd
            go_wp2_with (first | (refine wpList_loadG 30 rfl rfl rfl (load_mach HR.out) ?_; simp only [Act.put, List.setIfInBounds_toArray, List.set_cons_succ, List.set_cons_zero]) | (refine wpList_loadG 30 rfl rfl rfl (load_mach HW9.out) ?_; simp only [Act.put, List.setIfInBounds_toArray, List.set_cons_succ, List.set_cons_zero]))
            refine (c_REqT HR.out.mls HW9.out.mls HBD.out).mono ?_
            rintro e w10 ⟨rfl, hb10⟩
            have hB_w10 := hB_w9.next hb10
            replace HM := Lib.hid (HM.out.next hb10)
            have K_1 : Blk w10 (w.heap.size) 24 #[.slice A n cap, .int .i64 im.mem, .int .i64 im.stacks] := Blk.next (by repeat' (first | with_reducible exact H_1.out | with_reducible exact K0_1 | (refine Blk.new' ?_ _ _; simp; done) | with_reducible refine Blk.alloc ?_ _ | with_reducible refine Blk.drewN ?_ _ | with_reducible refine Blk.drew ?_)) hb10; (try clear H_1); (try clear T_1); (try clear z_1); (try clear F_1); obtain ⟨z_1, T_1, F_1⟩ := K_1.open_; have H_1 := Lib.hid K_1; clear K_1
            clear hb10 HR HW9
            go_wp2_with fail
            have HENV : Env w10 ⟨w3.heap.size, 30, [], [], 0, gm, gs, (· < w2.heap.size)⟩ A n im.code := Env.old HC.out hw HT.out (by have := HL6.out; omega) hB_w10 (fun k hk ho => by rcases ho with e | e | e <;> (dsimp only at e; omega))
            refine (c_FitsT HM.out cap im HENV HCK.out HFIT.out HBD.out).mono ?_
            rintro e w11 ⟨rfl, hb11⟩
            have hB_w11 := hB_w10.next hb11
            go_wp2_with fail
            go_ret
            exact ⟨rfl, hB_w11⟩
          exact AllReadyH.nil
        exact AllReadyH.nil
      refine AllReadyH.cons rfl (fun K hK => ?_) ?_
      · go_simp
        refine hK.out _ _ (S0.alloc _) (fun hH => ?_)
        clear hK
        (try simp only [Act.put, List.setIfInBounds_toArray, List.set_cons_zero, List.set_cons_succ])
        refine wpAnyH_at ?_
        intro V1 hV1
        have b1 : Below V0.heap.size V0 V1 := by rw [hV1]; exact (Below.refl _ _).alloc (Nat.le_refl _) _
        have S1 : Blk V1 w.heap.size 24 #[.slice A n cap, .int .i64 im.mem, .int .i64 im.stacks] := S0.next b1
        have f5 : Row V1 V0.heap.size (.slice (some ⟨V0.heap.size, 0, none⟩) ss ss) (List.replicate ss (.slice none 0 0)) := by rw [hV1]; exact rowMade rfl
        have g5 : V0.heap.size < V1.heap.size := by rw [hV1]; simp
        clear hH hV1
        refine wpAnyH_ready (rs := [2, 8]) (by kernel_rfl) (by simp) ?_
        refine AllReadyH.cons rfl (fun K hK => ?_) ?_
        · go_simp
          refine hK.out _ _ (S1.alloc _) (fun hH => ?_)
          clear hK
          (try simp only [Act.put, List.setIfInBounds_toArray, List.set_cons_zero, List.set_cons_succ])
          refine wpAnyH_at ?_
          intro V2 hV2
          have b2 : Below V1.heap.size V1 V2 := by rw [hV2]; exact (Below.refl _ _).alloc (Nat.le_refl _) _
          have S2 : Blk V2 w.heap.size 24 #[.slice A n cap, .int .i64 im.mem, .int .i64 im.stacks] := S1.next b2
          have f2 : Row V2 V1.heap.size (.slice (some ⟨V1.heap.size, 0, none⟩) mm mm) (intCells (List.replicate mm 0)) := by rw [hV2]; exact rowMade (by simp [intCells])
          have g2 : V1.heap.size < V2.heap.size := by rw [hV2]; simp
          clear hH hV2
          refine wpAnyH_take (i := 7) (v := ?_) rfl (by kernel_rfl) (by kernel_rfl) (by kernel_rfl) (fun _ _ _ h => h) (Or.inl ⟨by rfl, ?hy⟩) (by assumption) ?_
          case hy => (intro w9 hS9; clear hS9; go_simp; try with_reducible rfl)
          (try simp only [Act.put, List.setIfInBounds_toArray, List.set_cons_zero, List.set_cons_succ])
          refine wpAnyH_ready (rs := [8]) (by kernel_rfl) (by simp) ?_
          refine AllReadyH.cons rfl (fun K hK => ?_) ?_
          · go_simp
            refine hK.out _ _ (S2.alloc _) (fun hH => ?_)
            clear hK
            (try simp only [Act.put, List.setIfInBounds_toArray, List.set_cons_zero, List.set_cons_succ])
            refine wpAnyH_at ?_
            intro V3 hV3
            have b3 : Below V2.heap.size V2 V3 := by rw [hV3]; exact (Below.refl _ _).alloc (Nat.le_refl _) _
            have S3 : Blk V3 w.heap.size 24 #[.slice A n cap, .int .i64 im.mem, .int .i64 im.stacks] := S2.next b3
            have f8 : Blk V3 V2.heap.size 30 #[.int .i64 0, .int .i64 0, .int .i64 0, .int .i64 0, .int .i64 0, .int .i64 0, .int .i64 0, .int .i64 0, .int .i64 0, .int .i64 0, .int .i64 0, .int .i64 0, .int .i64 0, .int .i64 0, .int .i64 0, .int .i64 0, .int .i64 0, .int .i64 0, .slice none 0 0, .slice none 0 0, .slice none 0 0, .int .i64 0, .int .i64 0, .slice none 0 0, .slice none 0 0] := by rw [hV3]; exact Blk.new _ _ _
            have g8 : V2.heap.size < V3.heap.size := by rw [hV3]; simp
            clear hH hV3
            have RM := f2.keep (w' := V3) (fun _ => b3.block _ g2)
            have RS := f5.keep (w' := V3) (fun _ => (b2.next b3).block _ g5)
            have KZ := f8.next (Below.refl _ _)
            have bW := (B0.next b1).next (b2.next b3)
            have y1 := b1.size; have y2 := b2.size; have y3 := b3.size; have y0 := B0.size
            have HKZ := Lib.hid KZ; have HRM := Lib.hid RM; have HRS := Lib.hid RS
            clear f2 f5 f8 KZ RM RS
            refine wpAnyH_ready (rs := [9]) (by kernel_rfl) (by simp) ?_
            refine AllReadyH.cons rfl (fun K hK => ?_) (AllReadyH.nil)
            rw [if_pos (by rfl)]
            refine wp_store_row 30 _ _ rfl V2.heap.size _ rfl rfl 30 #[.int .i64 0, .int .i64 0, .int .i64 0, .int .i64 0, .int .i64 0, .int .i64 0, .int .i64 0, .int .i64 0, .int .i64 0, .int .i64 0, .int .i64 0, .int .i64 0, .int .i64 0, .int .i64 0, .int .i64 0, .int .i64 0, .int .i64 0, .int .i64 0, .slice none 0 0, .slice none 0 0, .slice none 0 0, .int .i64 0, .int .i64 0, .slice none 0 0, .slice none 0 0] HKZ.out (by rw [info_mach25]; rfl) rfl (by simp [Value.oneCell']) ?_
            refine hK.out _ _ ((setRow_other _ _ _ _ (by omega)).trans S3) (fun hH => ?_)
            clear hK hH
            (try simp only [Act.put, List.setIfInBounds_toArray, List.set_cons_zero, List.set_cons_succ])
            refine wpAnyH_done (by kernel_rfl) ?_ _
            generalize hw9 : World.setRow _ _ _ = w9
            have BZ : Below w5.heap.size w5 w9 := by rw [← hw9]; exact ((Fr.of bW).trans ((Fr.setRow _ _ _).mono (O' := (· = V2.heap.size)) (fun k hk => hk))).below (Nat.le_refl _) (fun k hk => by omega)
            have KB : Blk w9 V2.heap.size 30 (mcells (newM mm ss l) (.slice (some ⟨V1.heap.size, 0, none⟩) mm mm) (.slice (some ⟨V0.heap.size, 0, none⟩) ss ss) (.slice none 0 0) (.slice Ai l.length ci) (.slice none 0 0)).toArray := by rw [← hw9]; exact setRow_heap _ _ _ _ _ _ HKZ.out
            have zs : V3.heap.size = w9.heap.size := by rw [← hw9]; simp
            have RM : Row w9 V1.heap.size (.slice (some ⟨V1.heap.size, 0, none⟩) mm mm) (intCells (List.replicate mm 0)) := HRM.out.keep fun _ => by rw [← hw9]; exact setRow_other _ _ _ _ (by omega)
            have RS : Row w9 V0.heap.size (.slice (some ⟨V0.heap.size, 0, none⟩) ss ss) (List.replicate ss (.slice none 0 0)) := HRS.out.keep fun _ => by rw [← hw9]; exact setRow_other _ _ _ _ (by omega)
            have ML : MLs w9 (· < w9.heap.size) (newM mm ss l) (.slice (some ⟨V1.heap.size, 0, none⟩) mm mm) (.slice (some ⟨V0.heap.size, 0, none⟩) ss ss) (.slice none 0 0) (.slice Ai l.length ci) (.slice none 0 0) (List.replicate ss (.slice none 0 0)) := by
              have e1 := RM.sl (by omega); have e2 := RS.sl (by omega)
              rw [intCells_length] at e1
              refine ⟨rfl, e1.mono fun k hk => by omega, by have := e2.mono (D' := (· < w9.heap.size)) (fun k hk => by omega); simpa [newM] using this, ⟨⟨by simp [newM], fun k hk => ?_⟩, Sl.nil, (HI.out.upD (fun _ h => h) (hB_w5.next BZ)).mono (fun k hk => by have := hB_w5.size; omega), Sl.nil⟩, fun _ h => h⟩
              simp only [newM, List.length_replicate] at hk
              refine ⟨.slice none 0 0, by rw [List.getElem?_replicate, if_pos hk], ?_⟩
              have e : (newM mm ss l).s.getD k [] = [] := by simp [newM, List.getD_eq_getElem?_getD, List.getElem?_replicate, hk]
              rw [e]; exact Sl.nil
            have HW9 := Lib.hid (ML.at_ KB)
            clear hw9 HKZ HRM HRS RM RS KB ML S0 S1 S2 S3 b1 b2 b3 B0 bW MKS MKM mkS mkM
            replace HM := Lib.hid (HM.out.next BZ)
            have hB_w9 := hB_w5.next BZ
            have K_1 : Blk w9 (w.heap.size) 24 #[.slice A n cap, .int .i64 im.mem, .int .i64 im.stacks] := Blk.next (by repeat' (first | with_reducible exact H_1.out | with_reducible exact K0_1 | (refine Blk.new' ?_ _ _; simp; done) | with_reducible refine Blk.alloc ?_ _ | with_reducible refine Blk.drewN ?_ _ | with_reducible refine Blk.drew ?_)) BZ; (try clear H_1); (try clear T_1); (try clear z_1); (try clear F_1); obtain ⟨z_1, T_1, F_1⟩ := K_1.open_; have H_1 := Lib.hid K_1; clear K_1
            clear BZ
            have HR := Lib.hid HM.out.rd
            go_wp2_with (first | (refine wpList_loadG 30 rfl rfl rfl (load_mach HR.out) ?_; simp only [Act.put, List.setIfInBounds_toArray, List.set_cons_succ, List.set_cons_zero]) | (refine wpList_loadG 30 rfl rfl rfl (load_mach HW9.out) ?_; simp only [Act.put, List.setIfInBounds_toArray, List.set_cons_succ, List.set_cons_zero]))
            refine (c_REqT HR.out.mls HW9.out.mls HBD.out).mono ?_
            rintro e w10 ⟨rfl, hb10⟩
            have hB_w10 := hB_w9.next hb10
            replace HM := Lib.hid (HM.out.next hb10)
            have K_1 : Blk w10 (w.heap.size) 24 #[.slice A n cap, .int .i64 im.mem, .int .i64 im.stacks] := Blk.next (by repeat' (first | with_reducible exact H_1.out | with_reducible exact K0_1 | (refine Blk.new' ?_ _ _; simp; done) | with_reducible refine Blk.alloc ?_ _ | with_reducible refine Blk.drewN ?_ _ | with_reducible refine Blk.drew ?_)) hb10; (try clear H_1); (try clear T_1); (try clear z_1); (try clear F_1); obtain ⟨z_1, T_1, F_1⟩ := K_1.open_; have H_1 := Lib.hid K_1; clear K_1
            clear hb10 HR HW9
            go_wp2_with fail
            have HENV : Env w10 ⟨w3.heap.size, 30, [], [], 0, gm, gs, (· < w2.heap.size)⟩ A n im.code := Env.old HC.out hw HT.out (by have := HL6.out; omega) hB_w10 (fun k hk ho => by rcases ho with e | e | e <;> (dsimp only at e; omega))
            refine (c_FitsT HM.out cap im HENV HCK.out HFIT.out HBD.out).mono ?_
            rintro e w11 ⟨rfl, hb11⟩
            have hB_w11 := hB_w10.next hb11
            go_wp2_with fail
            go_ret
            exact ⟨rfl, hB_w11⟩
          exact AllReadyH.nil
        refine AllReadyH.cons rfl (fun K hK => ?_) ?_
        · go_simp
          refine hK.out _ _ (S1.alloc _) (fun hH => ?_)
          clear hK
          (try simp only [Act.put, List.setIfInBounds_toArray, List.set_cons_zero, List.set_cons_succ])
          refine wpAnyH_at ?_
          intro V2 hV2
          have b2 : Below V1.heap.size V1 V2 := by rw [hV2]; exact (Below.refl _ _).alloc (Nat.le_refl _) _
          have S2 : Blk V2 w.heap.size 24 #[.slice A n cap, .int .i64 im.mem, .int .i64 im.stacks] := S1.next b2
          have f8 : Blk V2 V1.heap.size 30 #[.int .i64 0, .int .i64 0, .int .i64 0, .int .i64 0, .int .i64 0, .int .i64 0, .int .i64 0, .int .i64 0, .int .i64 0, .int .i64 0, .int .i64 0, .int .i64 0, .int .i64 0, .int .i64 0, .int .i64 0, .int .i64 0, .int .i64 0, .int .i64 0, .slice none 0 0, .slice none 0 0, .slice none 0 0, .int .i64 0, .int .i64 0, .slice none 0 0, .slice none 0 0] := by rw [hV2]; exact Blk.new _ _ _
          have g8 : V1.heap.size < V2.heap.size := by rw [hV2]; simp
          clear hH hV2
          refine wpAnyH_ready (rs := [2]) (by kernel_rfl) (by simp) ?_
          refine AllReadyH.cons rfl (fun K hK => ?_) ?_
          · go_simp
            refine hK.out _ _ (S2.alloc _) (fun hH => ?_)
            clear hK
            (try simp only [Act.put, List.setIfInBounds_toArray, List.set_cons_zero, List.set_cons_succ])
            refine wpAnyH_at ?_
            intro V3 hV3
            have b3 : Below V2.heap.size V2 V3 := by rw [hV3]; exact (Below.refl _ _).alloc (Nat.le_refl _) _
            have S3 : Blk V3 w.heap.size 24 #[.slice A n cap, .int .i64 im.mem, .int .i64 im.stacks] := S2.next b3
            have f2 : Row V3 V2.heap.size (.slice (some ⟨V2.heap.size, 0, none⟩) mm mm) (intCells (List.replicate mm 0)) := by rw [hV3]; exact rowMade (by simp [intCells])
            have g2 : V2.heap.size < V3.heap.size := by rw [hV3]; simp
            clear hH hV3
            refine wpAnyH_take (i := 7) (v := ?_) rfl (by kernel_rfl) (by kernel_rfl) (by kernel_rfl) (fun _ _ _ h => h) (Or.inl ⟨by rfl, ?hy⟩) (by assumption) ?_
            case hy => (intro w9 hS9; clear hS9; go_simp; try with_reducible rfl)
            (try simp only [Act.put, List.setIfInBounds_toArray, List.set_cons_zero, List.set_cons_succ])
            have RM := f2.keep (w' := V3) (fun _ => (Below.refl _ _).block _ g2)
            have RS := f5.keep (w' := V3) (fun _ => (b2.next b3).block _ g5)
            have KZ := f8.next b3
            have bW := (B0.next b1).next (b2.next b3)
            have y1 := b1.size; have y2 := b2.size; have y3 := b3.size; have y0 := B0.size
            have HKZ := Lib.hid KZ; have HRM := Lib.hid RM; have HRS := Lib.hid RS
            clear f2 f5 f8 KZ RM RS
            refine wpAnyH_ready (rs := [9]) (by kernel_rfl) (by simp) ?_
            refine AllReadyH.cons rfl (fun K hK => ?_) (AllReadyH.nil)
            rw [if_pos (by rfl)]
            refine wp_store_row 30 _ _ rfl V1.heap.size _ rfl rfl 30 #[.int .i64 0, .int .i64 0, .int .i64 0, .int .i64 0, .int .i64 0, .int .i64 0, .int .i64 0, .int .i64 0, .int .i64 0, .int .i64 0, .int .i64 0, .int .i64 0, .int .i64 0, .int .i64 0, .int .i64 0, .int .i64 0, .int .i64 0, .int .i64 0, .slice none 0 0, .slice none 0 0, .slice none 0 0, .int .i64 0, .int .i64 0, .slice none 0 0, .slice none 0 0] HKZ.out (by rw [info_mach25]; rfl) rfl (by simp [Value.oneCell']) ?_
            refine hK.out _ _ ((setRow_other _ _ _ _ (by omega)).trans S3) (fun hH => ?_)
            clear hK hH
            (try simp only [Act.put, List.setIfInBounds_toArray, List.set_cons_zero, List.set_cons_succ])
            refine wpAnyH_done (by kernel_rfl) ?_ _
            generalize hw9 : World.setRow _ _ _ = w9
            have BZ : Below w5.heap.size w5 w9 := by rw [← hw9]; exact ((Fr.of bW).trans ((Fr.setRow _ _ _).mono (O' := (· = V1.heap.size)) (fun k hk => hk))).below (Nat.le_refl _) (fun k hk => by omega)
            have KB : Blk w9 V1.heap.size 30 (mcells (newM mm ss l) (.slice (some ⟨V2.heap.size, 0, none⟩) mm mm) (.slice (some ⟨V0.heap.size, 0, none⟩) ss ss) (.slice none 0 0) (.slice Ai l.length ci) (.slice none 0 0)).toArray := by rw [← hw9]; exact setRow_heap _ _ _ _ _ _ HKZ.out
            have zs : V3.heap.size = w9.heap.size := by rw [← hw9]; simp
            have RM : Row w9 V2.heap.size (.slice (some ⟨V2.heap.size, 0, none⟩) mm mm) (intCells (List.replicate mm 0)) := HRM.out.keep fun _ => by rw [← hw9]; exact setRow_other _ _ _ _ (by omega)
            have RS : Row w9 V0.heap.size (.slice (some ⟨V0.heap.size, 0, none⟩) ss ss) (List.replicate ss (.slice none 0 0)) := HRS.out.keep fun _ => by rw [← hw9]; exact setRow_other _ _ _ _ (by omega)
            have ML : MLs w9 (· < w9.heap.size) (newM mm ss l) (.slice (some ⟨V2.heap.size, 0, none⟩) mm mm) (.slice (some ⟨V0.heap.size, 0, none⟩) ss ss) (.slice none 0 0) (.slice Ai l.length ci) (.slice none 0 0) (List.replicate ss (.slice none 0 0)) := by
              have e1 := RM.sl (by omega); have e2 := RS.sl (by omega)
              rw [intCells_length] at e1
              refine ⟨rfl, e1.mono fun k hk => by omega, by have := e2.mono (D' := (· < w9.heap.size)) (fun k hk => by omega); simpa [newM] using this, ⟨⟨by simp [newM], fun k hk => ?_⟩, Sl.nil, (HI.out.upD (fun _ h => h) (hB_w5.next BZ)).mono (fun k hk => by have := hB_w5.size; omega), Sl.nil⟩, fun _ h => h⟩
              simp only [newM, List.length_replicate] at hk
              refine ⟨.slice none 0 0, by rw [List.getElem?_replicate, if_pos hk], ?_⟩
              have e : (newM mm ss l).s.getD k [] = [] := by simp [newM, List.getD_eq_getElem?_getD, List.getElem?_replicate, hk]
              rw [e]; exact Sl.nil
            have HW9 := Lib.hid (ML.at_ KB)
            clear hw9 HKZ HRM HRS RM RS KB ML S0 S1 S2 S3 b1 b2 b3 B0 bW MKS MKM mkS mkM
            replace HM := Lib.hid (HM.out.next BZ)
            have hB_w9 := hB_w5.next BZ
            have K_1 : Blk w9 (w.heap.size) 24 #[.slice A n cap, .int .i64 im.mem, .int .i64 im.stacks] := Blk.next (by repeat' (first | with_reducible exact H_1.out | with_reducible exact K0_1 | (refine Blk.new' ?_ _ _; simp; done) | with_reducible refine Blk.alloc ?_ _ | with_reducible refine Blk.drewN ?_ _ | with_reducible refine Blk.drew ?_)) BZ; (try clear H_1); (try clear T_1); (try clear z_1); (try clear F_1); obtain ⟨z_1, T_1, F_1⟩ := K_1.open_; have H_1 := Lib.hid K_1; clear K_1
            clear BZ
            have HR := Lib.hid HM.out.rd
            go_wp2_with (first | (refine wpList_loadG 30 rfl rfl rfl (load_mach HR.out) ?_; simp only [Act.put, List.setIfInBounds_toArray, List.set_cons_succ, List.set_cons_zero]) | (refine wpList_loadG 30 rfl rfl rfl (load_mach HW9.out) ?_; simp only [Act.put, List.setIfInBounds_toArray, List.set_cons_succ, List.set_cons_zero]))
            refine (c_REqT HR.out.mls HW9.out.mls HBD.out).mono ?_
            rintro e w10 ⟨rfl, hb10⟩
            have hB_w10 := hB_w9.next hb10
            replace HM := Lib.hid (HM.out.next hb10)
            have K_1 : Blk w10 (w.heap.size) 24 #[.slice A n cap, .int .i64 im.mem, .int .i64 im.stacks] := Blk.next (by repeat' (first | with_reducible exact H_1.out | with_reducible exact K0_1 | (refine Blk.new' ?_ _ _; simp; done) | with_reducible refine Blk.alloc ?_ _ | with_reducible refine Blk.drewN ?_ _ | with_reducible refine Blk.drew ?_)) hb10; (try clear H_1); (try clear T_1); (try clear z_1); (try clear F_1); obtain ⟨z_1, T_1, F_1⟩ := K_1.open_; have H_1 := Lib.hid K_1; clear K_1
            clear hb10 HR HW9
            go_wp2_with fail
            have HENV : Env w10 ⟨w3.heap.size, 30, [], [], 0, gm, gs, (· < w2.heap.size)⟩ A n im.code := Env.old HC.out hw HT.out (by have := HL6.out; omega) hB_w10 (fun k hk ho => by rcases ho with e | e | e <;> (dsimp only at e; omega))
            refine (c_FitsT HM.out cap im HENV HCK.out HFIT.out HBD.out).mono ?_
            rintro e w11 ⟨rfl, hb11⟩
            have hB_w11 := hB_w10.next hb11
            go_wp2_with fail
            go_ret
            exact ⟨rfl, hB_w11⟩
          exact AllReadyH.nil
        exact AllReadyH.nil
      refine AllReadyH.cons rfl (fun K hK => ?_) ?_
      · go_simp
        refine hK.out _ _ (S0.alloc _) (fun hH => ?_)
        clear hK
        (try simp only [Act.put, List.setIfInBounds_toArray, List.set_cons_zero, List.set_cons_succ])
        refine wpAnyH_at ?_
        intro V1 hV1
        have b1 : Below V0.heap.size V0 V1 := by rw [hV1]; exact (Below.refl _ _).alloc (Nat.le_refl _) _
        have S1 : Blk V1 w.heap.size 24 #[.slice A n cap, .int .i64 im.mem, .int .i64 im.stacks] := S0.next b1
        have f8 : Blk V1 V0.heap.size 30 #[.int .i64 0, .int .i64 0, .int .i64 0, .int .i64 0, .int .i64 0, .int .i64 0, .int .i64 0, .int .i64 0, .int .i64 0, .int .i64 0, .int .i64 0, .int .i64 0, .int .i64 0, .int .i64 0, .int .i64 0, .int .i64 0, .int .i64 0, .int .i64 0, .slice none 0 0, .slice none 0 0, .slice none 0 0, .int .i64 0, .int .i64 0, .slice none 0 0, .slice none 0 0] := by rw [hV1]; exact Blk.new _ _ _
        have g8 : V0.heap.size < V1.heap.size := by rw [hV1]; simp
        clear hH hV1
        refine wpAnyH_ready (rs := [2, 5]) (by kernel_rfl) (by simp) ?_
        refine AllReadyH.cons rfl (fun K hK => ?_) ?_
        · go_simp
          refine hK.out _ _ (S1.alloc _) (fun hH => ?_)
          clear hK
          (try simp only [Act.put, List.setIfInBounds_toArray, List.set_cons_zero, List.set_cons_succ])
          refine wpAnyH_at ?_
          intro V2 hV2
          have b2 : Below V1.heap.size V1 V2 := by rw [hV2]; exact (Below.refl _ _).alloc (Nat.le_refl _) _
          have S2 : Blk V2 w.heap.size 24 #[.slice A n cap, .int .i64 im.mem, .int .i64 im.stacks] := S1.next b2
          have f2 : Row V2 V1.heap.size (.slice (some ⟨V1.heap.size, 0, none⟩) mm mm) (intCells (List.replicate mm 0)) := by rw [hV2]; exact rowMade (by simp [intCells])
          have g2 : V1.heap.size < V2.heap.size := by rw [hV2]; simp
          clear hH hV2
          refine wpAnyH_ready (rs := [5]) (by kernel_rfl) (by simp) ?_
          refine AllReadyH.cons rfl (fun K hK => ?_) ?_
          · go_simp
            refine hK.out _ _ (S2.alloc _) (fun hH => ?_)
            clear hK
            (try simp only [Act.put, List.setIfInBounds_toArray, List.set_cons_zero, List.set_cons_succ])
            refine wpAnyH_at ?_
            intro V3 hV3
            have b3 : Below V2.heap.size V2 V3 := by rw [hV3]; exact (Below.refl _ _).alloc (Nat.le_refl _) _
            have S3 : Blk V3 w.heap.size 24 #[.slice A n cap, .int .i64 im.mem, .int .i64 im.stacks] := S2.next b3
            have f5 : Row V3 V2.heap.size (.slice (some ⟨V2.heap.size, 0, none⟩) ss ss) (List.replicate ss (.slice none 0 0)) := by rw [hV3]; exact rowMade rfl
            have g5 : V2.heap.size < V3.heap.size := by rw [hV3]; simp
            clear hH hV3
            refine wpAnyH_take (i := 7) (v := ?_) rfl (by kernel_rfl) (by kernel_rfl) (by kernel_rfl) (fun _ _ _ h => h) (Or.inl ⟨by rfl, ?hy⟩) (by assumption) ?_
            case hy => (intro w9 hS9; clear hS9; go_simp; try with_reducible rfl)
            (try simp only [Act.put, List.setIfInBounds_toArray, List.set_cons_zero, List.set_cons_succ])
            have RM := f2.keep (w' := V3) (fun _ => b3.block _ g2)
            have RS := f5.keep (w' := V3) (fun _ => (Below.refl _ _).block _ g5)
            have KZ := f8.next (b2.next b3)
            have bW := (B0.next b1).next (b2.next b3)
            have y1 := b1.size; have y2 := b2.size; have y3 := b3.size; have y0 := B0.size
            have HKZ := Lib.hid KZ; have HRM := Lib.hid RM; have HRS := Lib.hid RS
            clear f2 f5 f8 KZ RM RS
            refine wpAnyH_ready (rs := [9]) (by kernel_rfl) (by simp) ?_
            refine AllReadyH.cons rfl (fun K hK => ?_) (AllReadyH.nil)
            rw [if_pos (by rfl)]
            refine wp_store_row 30 _ _ rfl V0.heap.size _ rfl rfl 30 #[.int .i64 0, .int .i64 0, .int .i64 0, .int .i64 0, .int .i64 0, .int .i64 0, .int .i64 0, .int .i64 0, .int .i64 0, .int .i64 0, .int .i64 0, .int .i64 0, .int .i64 0, .int .i64 0, .int .i64 0, .int .i64 0, .int .i64 0, .int .i64 0, .slice none 0 0, .slice none 0 0, .slice none 0 0, .int .i64 0, .int .i64 0, .slice none 0 0, .slice none 0 0] HKZ.out (by rw [info_mach25]; rfl) rfl (by simp [Value.oneCell']) ?_
            refine hK.out _ _ ((setRow_other _ _ _ _ (by omega)).trans S3) (fun hH => ?_)
            clear hK hH
            (try simp only [Act.put, List.setIfInBounds_toArray, List.set_cons_zero, List.set_cons_succ])
            refine wpAnyH_done (by kernel_rfl) ?_ _
            generalize hw9 : World.setRow _ _ _ = w9
            have BZ : Below w5.heap.size w5 w9 := by rw [← hw9]; exact ((Fr.of bW).trans ((Fr.setRow _ _ _).mono (O' := (· = V0.heap.size)) (fun k hk => hk))).below (Nat.le_refl _) (fun k hk => by omega)
            have KB : Blk w9 V0.heap.size 30 (mcells (newM mm ss l) (.slice (some ⟨V1.heap.size, 0, none⟩) mm mm) (.slice (some ⟨V2.heap.size, 0, none⟩) ss ss) (.slice none 0 0) (.slice Ai l.length ci) (.slice none 0 0)).toArray := by rw [← hw9]; exact setRow_heap _ _ _ _ _ _ HKZ.out
            have zs : V3.heap.size = w9.heap.size := by rw [← hw9]; simp
            have RM : Row w9 V1.heap.size (.slice (some ⟨V1.heap.size, 0, none⟩) mm mm) (intCells (List.replicate mm 0)) := HRM.out.keep fun _ => by rw [← hw9]; exact setRow_other _ _ _ _ (by omega)
            have RS : Row w9 V2.heap.size (.slice (some ⟨V2.heap.size, 0, none⟩) ss ss) (List.replicate ss (.slice none 0 0)) := HRS.out.keep fun _ => by rw [← hw9]; exact setRow_other _ _ _ _ (by omega)
            have ML : MLs w9 (· < w9.heap.size) (newM mm ss l) (.slice (some ⟨V1.heap.size, 0, none⟩) mm mm) (.slice (some ⟨V2.heap.size, 0, none⟩) ss ss) (.slice none 0 0) (.slice Ai l.length ci) (.slice none 0 0) (List.replicate ss (.slice none 0 0)) := by
              have e1 := RM.sl (by omega); have e2 := RS.sl (by omega)
              rw [intCells_length] at e1
              refine ⟨rfl, e1.mono fun k hk => by omega, by have := e2.mono (D' := (· < w9.heap.size)) (fun k hk => by omega); simpa [newM] using this, ⟨⟨by simp [newM], fun k hk => ?_⟩, Sl.nil, (HI.out.upD (fun _ h => h) (hB_w5.next BZ)).mono (fun k hk => by have := hB_w5.size; omega), Sl.nil⟩, fun _ h => h⟩
              simp only [newM, List.length_replicate] at hk
              refine ⟨.slice none 0 0, by rw [List.getElem?_replicate, if_pos hk], ?_⟩
              have e : (newM mm ss l).s.getD k [] = [] := by simp [newM, List.getD_eq_getElem?_getD, List.getElem?_replicate, hk]
              rw [e]; exact Sl.nil
            have HW9 := Lib.hid (ML.at_ KB)
            clear hw9 HKZ HRM HRS RM RS KB ML S0 S1 S2 S3 b1 b2 b3 B0 bW MKS MKM mkS mkM
            replace HM := Lib.hid (HM.out.next BZ)
            have hB_w9 := hB_w5.next BZ
            have K_1 : Blk w9 (w.heap.size) 24 #[.slice A n cap, .int .i64 im.mem, .int .i64 im.stacks] := Blk.next (by repeat' (first | with_reducible exact H_1.out | with_reducible exact K0_1 | (refine Blk.new' ?_ _ _; simp; done) | with_reducible refine Blk.alloc ?_ _ | with_reducible refine Blk.drewN ?_ _ | with_reducible refine Blk.drew ?_)) BZ; (try clear H_1); (try clear T_1); (try clear z_1); (try clear F_1); obtain ⟨z_1, T_1, F_1⟩ := K_1.open_; have H_1 := Lib.hid K_1; clear K_1
            clear BZ
            have HR := Lib.hid HM.out.rd
            go_wp2_with (first | (refine wpList_loadG 30 rfl rfl rfl (load_mach HR.out) ?_; simp only [Act.put, List.setIfInBounds_toArray, List.set_cons_succ, List.set_cons_zero]) | (refine wpList_loadG 30 rfl rfl rfl (load_mach HW9.out) ?_; simp only [Act.put, List.setIfInBounds_toArray, List.set_cons_succ, List.set_cons_zero]))
            refine (c_REqT HR.out.mls HW9.out.mls HBD.out).mono ?_
            rintro e w10 ⟨rfl, hb10⟩
            have hB_w10 := hB_w9.next hb10
            replace HM := Lib.hid (HM.out.next hb10)
            have K_1 : Blk w10 (w.heap.size) 24 #[.slice A n cap, .int .i64 im.mem, .int .i64 im.stacks] := Blk.next (by repeat' (first | with_reducible exact H_1.out | with_reducible exact K0_1 | (refine Blk.new' ?_ _ _; simp; done) | with_reducible refine Blk.alloc ?_ _ | with_reducible refine Blk.drewN ?_ _ | with_reducible refine Blk.drew ?_)) hb10; (try clear H_1); (try clear T_1); (try clear z_1); (try clear F_1); obtain ⟨z_1, T_1, F_1⟩ := K_1.open_; have H_1 := Lib.hid K_1; clear K_1
            clear hb10 HR HW9
            go_wp2_with fail
            have HENV : Env w10 ⟨w3.heap.size, 30, [], [], 0, gm, gs, (· < w2.heap.size)⟩ A n im.code := Env.old HC.out hw HT.out (by have := HL6.out; omega) hB_w10 (fun k hk ho => by rcases ho with e | e | e <;> (dsimp only at e; omega))
            refine (c_FitsT HM.out cap im HENV HCK.out HFIT.out HBD.out).mono ?_
            rintro e w11 ⟨rfl, hb11⟩
            have hB_w11 := hB_w10.next hb11
            go_wp2_with fail
            go_ret
            exact ⟨rfl, hB_w11⟩
          exact AllReadyH.nil
        refine AllReadyH.cons rfl (fun K hK => ?_) ?_
        · go_simp
          refine hK.out _ _ (S1.alloc _) (fun hH => ?_)
          clear hK
          (try simp only [Act.put, List.setIfInBounds_toArray, List.set_cons_zero, List.set_cons_succ])
          refine wpAnyH_at ?_
          intro V2 hV2
          have b2 : Below V1.heap.size V1 V2 := by rw [hV2]; exact (Below.refl _ _).alloc (Nat.le_refl _) _
          have S2 : Blk V2 w.heap.size 24 #[.slice A n cap, .int .i64 im.mem, .int .i64 im.stacks] := S1.next b2
          have f5 : Row V2 V1.heap.size (.slice (some ⟨V1.heap.size, 0, none⟩) ss ss) (List.replicate ss (.slice none 0 0)) := by rw [hV2]; exact rowMade rfl
          have g5 : V1.heap.size < V2.heap.size := by rw [hV2]; simp
          clear hH hV2
          refine wpAnyH_ready (rs := [2]) (by kernel_rfl) (by simp) ?_
          refine AllReadyH.cons rfl (fun K hK => ?_) ?_
          · go_simp
            refine hK.out _ _ (S2.alloc _) (fun hH => ?_)
            clear hK
            (try simp only [Act.put, List.setIfInBounds_toArray, List.set_cons_zero, List.set_cons_succ])
            refine wpAnyH_at ?_
            intro V3 hV3
            have b3 : Below V2.heap.size V2 V3 := by rw [hV3]; exact (Below.refl _ _).alloc (Nat.le_refl _) _
            have S3 : Blk V3 w.heap.size 24 #[.slice A n cap, .int .i64 im.mem, .int .i64 im.stacks] := S2.next b3
            have f2 : Row V3 V2.heap.size (.slice (some ⟨V2.heap.size, 0, none⟩) mm mm) (intCells (List.replicate mm 0)) := by rw [hV3]; exact rowMade (by simp [intCells])
            have g2 : V2.heap.size < V3.heap.size := by rw [hV3]; simp
            clear hH hV3
            refine wpAnyH_take (i := 7) (v := ?_) rfl (by kernel_rfl) (by kernel_rfl) (by kernel_rfl) (fun _ _ _ h => h) (Or.inl ⟨by rfl, ?hy⟩) (by assumption) ?_
            case hy => (intro w9 hS9; clear hS9; go_simp; try with_reducible rfl)
            (try simp only [Act.put, List.setIfInBounds_toArray, List.set_cons_zero, List.set_cons_succ])
            have RM := f2.keep (w' := V3) (fun _ => (Below.refl _ _).block _ g2)
            have RS := f5.keep (w' := V3) (fun _ => b3.block _ g5)
            have KZ := f8.next (b2.next b3)
            have bW := (B0.next b1).next (b2.next b3)
            have y1 := b1.size; have y2 := b2.size; have y3 := b3.size; have y0 := B0.size
            have HKZ := Lib.hid KZ; have HRM := Lib.hid RM; have HRS := Lib.hid RS
            clear f2 f5 f8 KZ RM RS
            refine wpAnyH_ready (rs := [9]) (by kernel_rfl) (by simp) ?_
            refine AllReadyH.cons rfl (fun K hK => ?_) (AllReadyH.nil)
            rw [if_pos (by rfl)]
            refine wp_store_row 30 _ _ rfl V0.heap.size _ rfl rfl 30 #[.int .i64 0, .int .i64 0, .int .i64 0, .int .i64 0, .int .i64 0, .int .i64 0, .int .i64 0, .int .i64 0, .int .i64 0, .int .i64 0, .int .i64 0, .int .i64 0, .int .i64 0, .int .i64 0, .int .i64 0, .int .i64 0, .int .i64 0, .int .i64 0, .slice none 0 0, .slice none 0 0, .slice none 0 0, .int .i64 0, .int .i64 0, .slice none 0 0, .slice none 0 0] HKZ.out (by rw [info_mach25]; rfl) rfl (by simp [Value.oneCell']) ?_
            refine hK.out _ _ ((setRow_other _ _ _ _ (by omega)).trans S3) (fun hH => ?_)
            clear hK hH
            (try simp only [Act.put, List.setIfInBounds_toArray, List.set_cons_zero, List.set_cons_succ])
            refine wpAnyH_done (by kernel_rfl) ?_ _
            generalize hw9 : World.setRow _ _ _ = w9
            have BZ : Below w5.heap.size w5 w9 := by rw [← hw9]; exact ((Fr.of bW).trans ((Fr.setRow _ _ _).mono (O' := (· = V0.heap.size)) (fun k hk => hk))).below (Nat.le_refl _) (fun k hk => by omega)
            have KB : Blk w9 V0.heap.size 30 (mcells (newM mm ss l) (.slice (some ⟨V2.heap.size, 0, none⟩) mm mm) (.slice (some ⟨V1.heap.size, 0, none⟩) ss ss) (.slice none 0 0) (.slice Ai l.length ci) (.slice none 0 0)).toArray := by rw [← hw9]; exact setRow_heap _ _ _ _ _ _ HKZ.out
            have zs : V3.heap.size = w9.heap.size := by rw [← hw9]; simp
            have RM : Row w9 V2.heap.size (.slice (some ⟨V2.heap.size, 0, none⟩) mm mm) (intCells (List.replicate mm 0)) := HRM.out.keep fun _ => by rw [← hw9]; exact setRow_other _ _ _ _ (by omega)
            have RS : Row w9 V1.heap.size (.slice (some ⟨V1.heap.size, 0, none⟩) ss ss) (List.replicate ss (.slice none 0 0)) := HRS.out.keep fun _ => by rw [← hw9]; exact setRow_other _ _ _ _ (by omega)
            have ML : MLs w9 (· < w9.heap.size) (newM mm ss l) (.slice (some ⟨V2.heap.size, 0, none⟩) mm mm) (.slice (some ⟨V1.heap.size, 0, none⟩) ss ss) (.slice none 0 0) (.slice Ai l.length ci) (.slice none 0 0) (List.replicate ss (.slice none 0 0)) := by
              have e1 := RM.sl (by omega); have e2 := RS.sl (by omega)
              rw [intCells_length] at e1
              refine ⟨rfl, e1.mono fun k hk => by omega, by have := e2.mono (D' := (· < w9.heap.size)) (fun k hk => by omega); simpa [newM] using this, ⟨⟨by simp [newM], fun k hk => ?_⟩, Sl.nil, (HI.out.upD (fun _ h => h) (hB_w5.next BZ)).mono (fun k hk => by have := hB_w5.size; omega), Sl.nil⟩, fun _ h => h⟩
              simp only [newM, List.length_replicate] at hk
              refine ⟨.slice none 0 0, by rw [List.getElem?_replicate, if_pos hk], ?_⟩
              have e : (newM mm ss l).s.getD k [] = [] := by simp [newM, List.getD_eq_getElem?_getD, List.getElem?_replicate, hk]
              rw [e]; exact Sl.nil
            have HW9 := Lib.hid (ML.at_ KB)
            clear hw9 HKZ HRM HRS RM RS KB ML S0 S1 S2 S3 b1 b2 b3 B0 bW MKS MKM mkS mkM
            replace HM := Lib.hid (HM.out.next BZ)
            have hB_w9 := hB_w5.next BZ
            have K_1 : Blk w9 (w.heap.size) 24 #[.slice A n cap, .int .i64 im.mem, .int .i64 im.stacks] := Blk.next (by repeat' (first | with_reducible exact H_1.out | with_reducible exact K0_1 | (refine Blk.new' ?_ _ _; simp; done) | with_reducible refine Blk.alloc ?_ _ | with_reducible refine Blk.drewN ?_ _ | with_reducible refine Blk.drew ?_)) BZ; (try clear H_1); (try clear T_1); (try clear z_1); (try clear F_1); obtain ⟨z_1, T_1, F_1⟩ := K_1.open_; have H_1 := Lib.hid K_1; clear K_1
            clear BZ
            have HR := Lib.hid HM.out.rd
            go_wp2_with (first | (refine wpList_loadG 30 rfl rfl rfl (load_mach HR.out) ?_; simp only [Act.put, List.setIfInBounds_toArray, List.set_cons_succ, List.set_cons_zero]) | (refine wpList_loadG 30 rfl rfl rfl (load_mach HW9.out) ?_; simp only [Act.put, List.setIfInBounds_toArray, List.set_cons_succ, List.set_cons_zero]))
            refine (c_REqT HR.out.mls HW9.out.mls HBD.out).mono ?_
            rintro e w10 ⟨rfl, hb10⟩
            have hB_w10 := hB_w9.next hb10
            replace HM := Lib.hid (HM.out.next hb10)
            have K_1 : Blk w10 (w.heap.size) 24 #[.slice A n cap, .int .i64 im.mem, .int .i64 im.stacks] := Blk.next (by repeat' (first | with_reducible exact H_1.out | with_reducible exact K0_1 | (refine Blk.new' ?_ _ _; simp; done) | with_reducible refine Blk.alloc ?_ _ | with_reducible refine Blk.drewN ?_ _ | with_reducible refine Blk.drew ?_)) hb10; (try clear H_1); (try clear T_1); (try clear z_1); (try clear F_1); obtain ⟨z_1, T_1, F_1⟩ := K_1.open_; have H_1 := Lib.hid K_1; clear K_1
            clear hb10 HR HW9
            go_wp2_with fail
            have HENV : Env w10 ⟨w3.heap.size, 30, [], [], 0, gm, gs, (· < w2.heap.size)⟩ A n im.code := Env.old HC.out hw HT.out (by have := HL6.out; omega) hB_w10 (fun k hk ho => by rcases ho with e | e | e <;> (dsimp only at e; omega))
            refine (c_FitsT HM.out cap im HENV HCK.out HFIT.out HBD.out).mono ?_
            rintro e w11 ⟨rfl, hb11⟩
            have hB_w11 := hB_w10.next hb11
            go_wp2_with fail
            go_ret
            exact ⟨rfl, hB_w11⟩
          exact AllReadyH.nil
        exact AllReadyH.nil
      exact AllReadyH.nil
end Go.Proofs.YtmccbgnonmgbeaaDoor
