/- Several texts in one: RcG RcH RcI. -/
import Derived.Test.YteocbllbljeajaaDoorRX
import Derived.Test.YteocbllbljeajaaDoorZHeldL
import Derived.Test.YteocbllbljeajaaDoorZHeld
import Derived.BigRegion
set_option linter.unusedVariables false
set_option linter.unusedSimpArgs false
/- straight: the stacks. -/
set_option maxRecDepth 100000
set_option maxHeartbeats 8000000
set_option maxRecDepth 100000
set_option linter.unusedVariables false
set_option linter.unusedSimpArgs false
namespace Go.Proofs.YteocbllbljeajaaDoor
open Go.RowKit Bk
variable {w : World} {D : Nat → Prop} {P : Pl} {M : Mach} {vm vs vc vi vo : Value} {sv : List Value}
theorem rs_stackOut (h : MOn w P M vm vs vc vi vo sv) (hB : MBd M) (op : Int) (hop : op = 12 ∨ op = 13 ∨ op = 14 ∨ op = 15) (a : Nat) (ha : a < 16) (i c d : Int) (i0 : 0 ≤ i) (i1 : i ≤ 16384) (hf : (M.s.length : Int) ≤ find M i) (hs : 1 ≤ M.s.length) :
    SC w P (op) ((a : Nat)) (i) (c) (d) ((12, M)) := by
  unfold SC
  have HB := Lib.hid hB; have HF := Lib.hid hf; have HS := Lib.hid hs
  rcases hop with rfl | rfl | rfl | rfl
  · have hgm0 := h.gm; have hgs0 := h.gs
    obtain ⟨w1, hw1, h1, hbw, KI, hlt, hlt0, hne0, hne⟩ := h.al 42 #[.int .u8 (12), .int .i64 ((a : Nat)), .int .i64 (i), .int .i64 (c), .int .i64 (d)]; have H1 := Lib.hid h1; obtain ⟨er_a, zr_a, i0_a, i1_a⟩ := h1.rg a ha; have HKI := Lib.hid KI; obtain ⟨zI, TI, FI⟩ := KI.open_; obtain ⟨b, tt, pre, post, off, gm, gs, fx⟩ := P; dsimp only at *; clear h h1 KI hB hf hs
    go_enter Tryd.func35, Tryd.ntmps35
    go_wp2_with fail
    rw [← hw1]
    clear hw1
    refine wp_region_held_drew (S := fun W => Below w1.heap.size w1 W) (by kernel_rfl) ((Below.refl _ _).drew) (fun hH => ?_)
    refine tkH 0 (v := ?_) rfl (by kernel_rfl) (fun _ _ _ h => h) (by rfl) ?hy hH ?_
    case hy => (intro w9_ hS9; clear hS9; go_simp; try with_reducible rfl)
    (try simp only [Bk.PU, Act.put])
    refine tkH 1 (v := ?_) rfl (by kernel_rfl) (fun _ _ _ h => h) (by rfl) ?hy hH ?_
    case hy => (intro w9_ hS9; clear hS9; go_simp; try with_reducible rfl)
    (try simp only [Bk.PU, Act.put])
    refine wpAnyH_take (i := 2) (v := _) rfl (by kernel_rfl) (by kernel_rfl) (by kernel_rfl) (fun _ _ _ h => h) (Or.inl ⟨by rfl, yields_load 30 (x := .tmp 341) rfl rfl (fun W hW => load_mach (H1.out.next hW).rd)⟩) hH ?_
    (try simp only [Bk.PU, Act.put])
    refine tkH 3 (v := ?_) rfl (by kernel_rfl) (fun _ _ _ h => h) (by rfl) ?hy hH ?_
    case hy => (intro w9_ hS9; clear hS9; go_simp; try with_reducible rfl)
    (try simp only [Bk.PU, Act.put])
    refine tkH 4 (v := ?_) rfl (by kernel_rfl) (fun _ _ _ h => h) (by rfl) ?hy hH ?_
    case hy => (intro w9_ hS9; have T9 := (HKI.out.next hS9).cell; clear hS9; go_simp; try with_reducible rfl)
    (try simp only [Bk.PU, Act.put])
    refine wpAnyH_ready (rs := [5]) (by kernel_rfl) (by simp) ?_
    refine AllReadyH.cons rfl (fun K hK => ?_) (AllReadyH.nil)
    go_simp
    refine (c_rstackOut (H1.out.next hH).rd.mls i i0 i1 HB.out.s0 HB.out.s1 HS.out HF.out).mono ?_
    rintro e w2 ⟨rfl, hb2⟩
    replace hH := hH.next hb2
    clear hb2
    refine hK.out _ _ hH (fun _ => ?_)
    clear hK
    (try simp only [Bk.PU, Act.put])
    refine tkH 6 (v := ?_) rfl (by kernel_rfl) (fun _ _ _ h => h) (by rfl) ?hy hH ?_
    case hy => (intro w9_ hS9; clear hS9; go_simp; try with_reducible rfl)
    (try simp only [Bk.PU, Act.put])
    refine wpAnyH_done (by kernel_rfl) ?_ _
    have hB2 : Below w1.heap.size w1 w2 := hH
    go_wp2_with fail
    go_ret
    exact ⟨rfl, (H1.out.next hB2).mat, Fr.of (hbw.next hB2)⟩
  · have hgm0 := h.gm; have hgs0 := h.gs
    obtain ⟨w1, hw1, h1, hbw, KI, hlt, hlt0, hne0, hne⟩ := h.al 42 #[.int .u8 (13), .int .i64 ((a : Nat)), .int .i64 (i), .int .i64 (c), .int .i64 (d)]; have H1 := Lib.hid h1; obtain ⟨er_a, zr_a, i0_a, i1_a⟩ := h1.rg a ha; have HKI := Lib.hid KI; obtain ⟨zI, TI, FI⟩ := KI.open_; obtain ⟨b, tt, pre, post, off, gm, gs, fx⟩ := P; dsimp only at *; clear h h1 KI hB hf hs
    go_enter Tryd.func35, Tryd.ntmps35
    go_wp2_with fail
    rw [← hw1]
    clear hw1
    refine wp_region_held_drew (S := fun W => Below w1.heap.size w1 W) (by kernel_rfl) ((Below.refl _ _).drew) (fun hH => ?_)
    refine tkH 0 (v := ?_) rfl (by kernel_rfl) (fun _ _ _ h => h) (by rfl) ?hy hH ?_
    case hy => (intro w9_ hS9; clear hS9; go_simp; try with_reducible rfl)
    (try simp only [Bk.PU, Act.put])
    refine tkH 1 (v := ?_) rfl (by kernel_rfl) (fun _ _ _ h => h) (by rfl) ?hy hH ?_
    case hy => (intro w9_ hS9; clear hS9; go_simp; try with_reducible rfl)
    (try simp only [Bk.PU, Act.put])
    refine wpAnyH_take (i := 2) (v := _) rfl (by kernel_rfl) (by kernel_rfl) (by kernel_rfl) (fun _ _ _ h => h) (Or.inl ⟨by rfl, yields_load 30 (x := .tmp 341) rfl rfl (fun W hW => load_mach (H1.out.next hW).rd)⟩) hH ?_
    (try simp only [Bk.PU, Act.put])
    refine tkH 3 (v := ?_) rfl (by kernel_rfl) (fun _ _ _ h => h) (by rfl) ?hy hH ?_
    case hy => (intro w9_ hS9; clear hS9; go_simp; try with_reducible rfl)
    (try simp only [Bk.PU, Act.put])
    refine tkH 4 (v := ?_) rfl (by kernel_rfl) (fun _ _ _ h => h) (by rfl) ?hy hH ?_
    case hy => (intro w9_ hS9; have T9 := (HKI.out.next hS9).cell; clear hS9; go_simp; try with_reducible rfl)
    (try simp only [Bk.PU, Act.put])
    refine wpAnyH_ready (rs := [5]) (by kernel_rfl) (by simp) ?_
    refine AllReadyH.cons rfl (fun K hK => ?_) (AllReadyH.nil)
    go_simp
    refine (c_rstackOut (H1.out.next hH).rd.mls i i0 i1 HB.out.s0 HB.out.s1 HS.out HF.out).mono ?_
    rintro e w2 ⟨rfl, hb2⟩
    replace hH := hH.next hb2
    clear hb2
    refine hK.out _ _ hH (fun _ => ?_)
    clear hK
    (try simp only [Bk.PU, Act.put])
    refine tkH 6 (v := ?_) rfl (by kernel_rfl) (fun _ _ _ h => h) (by rfl) ?hy hH ?_
    case hy => (intro w9_ hS9; clear hS9; go_simp; try with_reducible rfl)
    (try simp only [Bk.PU, Act.put])
    refine wpAnyH_done (by kernel_rfl) ?_ _
    have hB2 : Below w1.heap.size w1 w2 := hH
    go_wp2_with fail
    go_ret
    exact ⟨rfl, (H1.out.next hB2).mat, Fr.of (hbw.next hB2)⟩
  · have hgm0 := h.gm; have hgs0 := h.gs
    obtain ⟨w1, hw1, h1, hbw, KI, hlt, hlt0, hne0, hne⟩ := h.al 42 #[.int .u8 (14), .int .i64 ((a : Nat)), .int .i64 (i), .int .i64 (c), .int .i64 (d)]; have H1 := Lib.hid h1; obtain ⟨er_a, zr_a, i0_a, i1_a⟩ := h1.rg a ha; have HKI := Lib.hid KI; obtain ⟨zI, TI, FI⟩ := KI.open_; obtain ⟨b, tt, pre, post, off, gm, gs, fx⟩ := P; dsimp only at *; clear h h1 KI hB hf hs
    go_enter Tryd.func35, Tryd.ntmps35
    go_wp2_with fail
    rw [← hw1]
    clear hw1
    refine wp_region_held_drew (S := fun W => Below w1.heap.size w1 W) (by kernel_rfl) ((Below.refl _ _).drew) (fun hH => ?_)
    refine tkH 0 (v := ?_) rfl (by kernel_rfl) (fun _ _ _ h => h) (by rfl) ?hy hH ?_
    case hy => (intro w9_ hS9; clear hS9; go_simp; try with_reducible rfl)
    (try simp only [Bk.PU, Act.put])
    refine tkH 1 (v := ?_) rfl (by kernel_rfl) (fun _ _ _ h => h) (by rfl) ?hy hH ?_
    case hy => (intro w9_ hS9; clear hS9; go_simp; try with_reducible rfl)
    (try simp only [Bk.PU, Act.put])
    refine wpAnyH_take (i := 2) (v := _) rfl (by kernel_rfl) (by kernel_rfl) (by kernel_rfl) (fun _ _ _ h => h) (Or.inl ⟨by rfl, yields_load 30 (x := .tmp 341) rfl rfl (fun W hW => load_mach (H1.out.next hW).rd)⟩) hH ?_
    (try simp only [Bk.PU, Act.put])
    refine tkH 3 (v := ?_) rfl (by kernel_rfl) (fun _ _ _ h => h) (by rfl) ?hy hH ?_
    case hy => (intro w9_ hS9; clear hS9; go_simp; try with_reducible rfl)
    (try simp only [Bk.PU, Act.put])
    refine tkH 4 (v := ?_) rfl (by kernel_rfl) (fun _ _ _ h => h) (by rfl) ?hy hH ?_
    case hy => (intro w9_ hS9; have T9 := (HKI.out.next hS9).cell; clear hS9; go_simp; try with_reducible rfl)
    (try simp only [Bk.PU, Act.put])
    refine wpAnyH_ready (rs := [5]) (by kernel_rfl) (by simp) ?_
    refine AllReadyH.cons rfl (fun K hK => ?_) (AllReadyH.nil)
    go_simp
    refine (c_rstackOut (H1.out.next hH).rd.mls i i0 i1 HB.out.s0 HB.out.s1 HS.out HF.out).mono ?_
    rintro e w2 ⟨rfl, hb2⟩
    replace hH := hH.next hb2
    clear hb2
    refine hK.out _ _ hH (fun _ => ?_)
    clear hK
    (try simp only [Bk.PU, Act.put])
    refine tkH 6 (v := ?_) rfl (by kernel_rfl) (fun _ _ _ h => h) (by rfl) ?hy hH ?_
    case hy => (intro w9_ hS9; clear hS9; go_simp; try with_reducible rfl)
    (try simp only [Bk.PU, Act.put])
    refine wpAnyH_done (by kernel_rfl) ?_ _
    have hB2 : Below w1.heap.size w1 w2 := hH
    go_wp2_with fail
    go_ret
    exact ⟨rfl, (H1.out.next hB2).mat, Fr.of (hbw.next hB2)⟩
  · have hgm0 := h.gm; have hgs0 := h.gs
    obtain ⟨w1, hw1, h1, hbw, KI, hlt, hlt0, hne0, hne⟩ := h.al 42 #[.int .u8 (15), .int .i64 ((a : Nat)), .int .i64 (i), .int .i64 (c), .int .i64 (d)]; have H1 := Lib.hid h1; obtain ⟨er_a, zr_a, i0_a, i1_a⟩ := h1.rg a ha; have HKI := Lib.hid KI; obtain ⟨zI, TI, FI⟩ := KI.open_; obtain ⟨b, tt, pre, post, off, gm, gs, fx⟩ := P; dsimp only at *; clear h h1 KI hB hf hs
    go_enter Tryd.func35, Tryd.ntmps35
    go_wp2_with fail
    rw [← hw1]
    clear hw1
    refine wp_region_held_drew (S := fun W => Below w1.heap.size w1 W) (by kernel_rfl) ((Below.refl _ _).drew) (fun hH => ?_)
    refine tkH 0 (v := ?_) rfl (by kernel_rfl) (fun _ _ _ h => h) (by rfl) ?hy hH ?_
    case hy => (intro w9_ hS9; clear hS9; go_simp; try with_reducible rfl)
    (try simp only [Bk.PU, Act.put])
    refine tkH 1 (v := ?_) rfl (by kernel_rfl) (fun _ _ _ h => h) (by rfl) ?hy hH ?_
    case hy => (intro w9_ hS9; clear hS9; go_simp; try with_reducible rfl)
    (try simp only [Bk.PU, Act.put])
    refine wpAnyH_take (i := 2) (v := _) rfl (by kernel_rfl) (by kernel_rfl) (by kernel_rfl) (fun _ _ _ h => h) (Or.inl ⟨by rfl, yields_load 30 (x := .tmp 341) rfl rfl (fun W hW => load_mach (H1.out.next hW).rd)⟩) hH ?_
    (try simp only [Bk.PU, Act.put])
    refine tkH 3 (v := ?_) rfl (by kernel_rfl) (fun _ _ _ h => h) (by rfl) ?hy hH ?_
    case hy => (intro w9_ hS9; clear hS9; go_simp; try with_reducible rfl)
    (try simp only [Bk.PU, Act.put])
    refine tkH 4 (v := ?_) rfl (by kernel_rfl) (fun _ _ _ h => h) (by rfl) ?hy hH ?_
    case hy => (intro w9_ hS9; have T9 := (HKI.out.next hS9).cell; clear hS9; go_simp; try with_reducible rfl)
    (try simp only [Bk.PU, Act.put])
    refine wpAnyH_ready (rs := [5]) (by kernel_rfl) (by simp) ?_
    refine AllReadyH.cons rfl (fun K hK => ?_) (AllReadyH.nil)
    go_simp
    refine (c_rstackOut (H1.out.next hH).rd.mls i i0 i1 HB.out.s0 HB.out.s1 HS.out HF.out).mono ?_
    rintro e w2 ⟨rfl, hb2⟩
    replace hH := hH.next hb2
    clear hb2
    refine hK.out _ _ hH (fun _ => ?_)
    clear hK
    (try simp only [Bk.PU, Act.put])
    refine tkH 6 (v := ?_) rfl (by kernel_rfl) (fun _ _ _ h => h) (by rfl) ?hy hH ?_
    case hy => (intro w9_ hS9; clear hS9; go_simp; try with_reducible rfl)
    (try simp only [Bk.PU, Act.put])
    refine wpAnyH_done (by kernel_rfl) ?_ _
    have hB2 : Below w1.heap.size w1 w2 := hH
    go_wp2_with fail
    go_ret
    exact ⟨rfl, (H1.out.next hB2).mat, Fr.of (hbw.next hB2)⟩
theorem rs_15 (h : MOn w P M vm vs vc vi vo sv) (hB : MBd M) (a f : Nat) (ha : a < 16) (i c d : Int) (i0 : 0 ≤ i) (i1 : i ≤ 16384) (hf : find M i = f) (hk : f < M.s.length) :
    SC w P (15) ((a : Nat)) (i) (c) (d) ((0, M.setR a (xor64 (M.reg a) (M.stk f).length))) := by
  unfold SC
  have HB := Lib.hid hB; have HF := Lib.hid hf; have HL := Lib.hid hk
  have hst := hB.stk f; have HST := Lib.hid hst
  have hgm0 := h.gm; have hgs0 := h.gs
  obtain ⟨w1, hw1, h1, hbw, KI, hlt, hlt0, hne0, hne⟩ := h.al 42 #[.int .u8 (15), .int .i64 ((a : Nat)), .int .i64 (i), .int .i64 (c), .int .i64 (d)]; have H1 := Lib.hid h1; obtain ⟨er_a, zr_a, i0_a, i1_a⟩ := h1.rg a ha; have HKI := Lib.hid KI; obtain ⟨zI, TI, FI⟩ := KI.open_; obtain ⟨b, tt, pre, post, off, gm, gs, fx⟩ := P; dsimp only at *; clear h h1 KI hB hf hk hst
  go_enter Tryd.func35, Tryd.ntmps35
  go_wp2_with fail
  rw [← hw1]
  clear hw1
  refine wp_region_held_drew (S := fun W => Below w1.heap.size w1 W) (by kernel_rfl) ((Below.refl _ _).drew) (fun hH => ?_)
  refine tkH 0 (v := ?_) rfl (by kernel_rfl) (fun _ _ _ h => h) (by rfl) ?hy hH ?_
  case hy => (intro w9_ hS9; clear hS9; go_simp; try with_reducible rfl)
  (try simp only [Bk.PU, Act.put])
  refine tkH 1 (v := ?_) rfl (by kernel_rfl) (fun _ _ _ h => h) (by rfl) ?hy hH ?_
  case hy => (intro w9_ hS9; clear hS9; go_simp; try with_reducible rfl)
  (try simp only [Bk.PU, Act.put])
  refine wpAnyH_take (i := 2) (v := _) rfl (by kernel_rfl) (by kernel_rfl) (by kernel_rfl) (fun _ _ _ h => h) (Or.inl ⟨by rfl, yields_load 30 (x := .tmp 341) rfl rfl (fun W hW => load_mach (H1.out.next hW).rd)⟩) hH ?_
  (try simp only [Bk.PU, Act.put])
  refine tkH 3 (v := ?_) rfl (by kernel_rfl) (fun _ _ _ h => h) (by rfl) ?hy hH ?_
  case hy => (intro w9_ hS9; clear hS9; go_simp; try with_reducible rfl)
  (try simp only [Bk.PU, Act.put])
  refine tkH 4 (v := ?_) rfl (by kernel_rfl) (fun _ _ _ h => h) (by rfl) ?hy hH ?_
  case hy => (intro w9_ hS9; have T9 := (HKI.out.next hS9).cell; clear hS9; go_simp; try with_reducible rfl)
  (try simp only [Bk.PU, Act.put])
  refine wpAnyH_ready (rs := [5]) (by kernel_rfl) (by simp) ?_
  refine AllReadyH.cons rfl (fun K hK => ?_) (AllReadyH.nil)
  go_simp
  refine (c_rstackIn (H1.out.next hH).rd.mls i i0 i1 HB.out.s0 HB.out.s1 f HF.out HL.out).mono ?_
  rintro e w2 ⟨rfl, hb2⟩
  replace hH := hH.next hb2
  clear hb2
  refine hK.out _ _ hH (fun _ => ?_)
  clear hK
  (try simp only [Bk.PU, Act.put])
  refine tkH 6 (v := ?_) rfl (by kernel_rfl) (fun _ _ _ h => h) (by rfl) ?hy hH ?_
  case hy => (intro w9_ hS9; clear hS9; go_simp; try with_reducible rfl)
  (try simp only [Bk.PU, Act.put])
  refine wpAnyH_done (by kernel_rfl) ?_ _
  have hB2 : Below w1.heap.size w1 w2 := hH
  have H2 := Lib.hid (H1.out.next hB2)
  have hBw2 : Below w.heap.size w w2 := hbw.next hB2
  have KI2 : Blk w2 w.heap.size 42 #[.int .u8 (15), .int .i64 (a), .int .i64 (i), .int .i64 (c), .int .i64 (d)] := HKI.out.next hB2
  have HKI2 := Lib.hid KI2
  clear er_a zr_a zI TI FI
  obtain ⟨n, cap, rfl, hn, As, cs, es, hcs, hAs, hRs, ssv⟩ := H2.out.sv f HL.out
  have e19 := H2.out.c19
  have er : w2.cell? ⟨b, off + 2 + a, none⟩ = some (.int .i64 (M.reg a)) := H2.out.cr a ha
  have zr := H2.out.frozen (off + 2 + a)
  have zs := (let ⟨_, _, _, _, z⟩ := H2.out.s.form (by rw [H2.out.l.1.1]; have := HL.out; omega); z f)
  obtain ⟨zI, TI, FI⟩ := KI2.open_
  dsimp only at *
  have i5 : (0 : Int) ≤ (f : Int) := by omega
  have i2 : (f : Int) < (n : Int) := by have := HL.out; omega
  have i3 : (0 : Int) ≤ (a : Int) := by omega
  have i4 : (a : Int) < 16 := by omega
  have i6 : ¬ (f : Int) < 0 := by omega
  have hblt := H2.out.lt
  have hglt := H2.out.gs
  have hgs : gs ≠ b := (H2.out.as_ (by have := HL.out; omega))
  dsimp only at hblt hglt
  have hgs' : b ≠ gs := Ne.symm hgs
  have hgI : gs ≠ w.heap.size := by omega
  have hgI' : w.heap.size ≠ gs := Ne.symm hgI
  have HRs := Lib.hid hRs; have HAs := Lib.hid hAs; have HN := Lib.hid hn; have HCS := Lib.hid hcs
  clear KI2 hRs hAs ssv hn
  have h1 := HST.out
  go_wp2_with fail
  go_region
  go_wp2_with fail
  go_ret
  exact ⟨rfl, (H2.out.setReg a ha _).matE rfl, by repeat' (first | with_reducible (first | assumption | apply Fr.refl | apply Fr.drew | apply Fr.drewN | apply Fr.alloc | apply Fr.set) | exact .inl rfl | exact .inr (.inl rfl) | exact .inr (.inr rfl) | (apply Fr.of; assumption))⟩
theorem rs_13_empty (h : MOn w P M vm vs vc vi vo sv) (hB : MBd M) (a f : Nat) (ha : a < 16) (i c d : Int) (i0 : 0 ≤ i) (i1 : i ≤ 16384) (hf : find M i = f) (hk : f < M.s.length) (he : (M.stk f).length = 0) :
    SC w P (13) ((a : Nat)) (i) (c) (d) ((13, M)) := by
  unfold SC
  have HE := Lib.hid he; clear he
  have HB := Lib.hid hB; have HF := Lib.hid hf; have HL := Lib.hid hk
  have hst := hB.stk f; have HST := Lib.hid hst
  have hgm0 := h.gm; have hgs0 := h.gs
  obtain ⟨w1, hw1, h1, hbw, KI, hlt, hlt0, hne0, hne⟩ := h.al 42 #[.int .u8 (13), .int .i64 ((a : Nat)), .int .i64 (i), .int .i64 (c), .int .i64 (d)]; have H1 := Lib.hid h1; obtain ⟨er_a, zr_a, i0_a, i1_a⟩ := h1.rg a ha; have HKI := Lib.hid KI; obtain ⟨zI, TI, FI⟩ := KI.open_; obtain ⟨b, tt, pre, post, off, gm, gs, fx⟩ := P; dsimp only at *; clear h h1 KI hB hf hk hst
  go_enter Tryd.func35, Tryd.ntmps35
  go_wp2_with fail
  rw [← hw1]
  clear hw1
  refine wp_region_held_drew (S := fun W => Below w1.heap.size w1 W) (by kernel_rfl) ((Below.refl _ _).drew) (fun hH => ?_)
  refine tkH 0 (v := ?_) rfl (by kernel_rfl) (fun _ _ _ h => h) (by rfl) ?hy hH ?_
  case hy => (intro w9_ hS9; clear hS9; go_simp; try with_reducible rfl)
  (try simp only [Bk.PU, Act.put])
  refine tkH 1 (v := ?_) rfl (by kernel_rfl) (fun _ _ _ h => h) (by rfl) ?hy hH ?_
  case hy => (intro w9_ hS9; clear hS9; go_simp; try with_reducible rfl)
  (try simp only [Bk.PU, Act.put])
  refine wpAnyH_take (i := 2) (v := _) rfl (by kernel_rfl) (by kernel_rfl) (by kernel_rfl) (fun _ _ _ h => h) (Or.inl ⟨by rfl, yields_load 30 (x := .tmp 341) rfl rfl (fun W hW => load_mach (H1.out.next hW).rd)⟩) hH ?_
  (try simp only [Bk.PU, Act.put])
  refine tkH 3 (v := ?_) rfl (by kernel_rfl) (fun _ _ _ h => h) (by rfl) ?hy hH ?_
  case hy => (intro w9_ hS9; clear hS9; go_simp; try with_reducible rfl)
  (try simp only [Bk.PU, Act.put])
  refine tkH 4 (v := ?_) rfl (by kernel_rfl) (fun _ _ _ h => h) (by rfl) ?hy hH ?_
  case hy => (intro w9_ hS9; have T9 := (HKI.out.next hS9).cell; clear hS9; go_simp; try with_reducible rfl)
  (try simp only [Bk.PU, Act.put])
  refine wpAnyH_ready (rs := [5]) (by kernel_rfl) (by simp) ?_
  refine AllReadyH.cons rfl (fun K hK => ?_) (AllReadyH.nil)
  go_simp
  refine (c_rstackIn (H1.out.next hH).rd.mls i i0 i1 HB.out.s0 HB.out.s1 f HF.out HL.out).mono ?_
  rintro e w2 ⟨rfl, hb2⟩
  replace hH := hH.next hb2
  clear hb2
  refine hK.out _ _ hH (fun _ => ?_)
  clear hK
  (try simp only [Bk.PU, Act.put])
  refine tkH 6 (v := ?_) rfl (by kernel_rfl) (fun _ _ _ h => h) (by rfl) ?hy hH ?_
  case hy => (intro w9_ hS9; clear hS9; go_simp; try with_reducible rfl)
  (try simp only [Bk.PU, Act.put])
  refine wpAnyH_done (by kernel_rfl) ?_ _
  have hB2 : Below w1.heap.size w1 w2 := hH
  have H2 := Lib.hid (H1.out.next hB2)
  have hBw2 : Below w.heap.size w w2 := hbw.next hB2
  have KI2 : Blk w2 w.heap.size 42 #[.int .u8 (13), .int .i64 (a), .int .i64 (i), .int .i64 (c), .int .i64 (d)] := HKI.out.next hB2
  have HKI2 := Lib.hid KI2
  clear er_a zr_a zI TI FI
  obtain ⟨n, cap, rfl, hn, As, cs, es, hcs, hAs, hRs, ssv⟩ := H2.out.sv f HL.out
  have e19 := H2.out.c19
  have er : w2.cell? ⟨b, off + 2 + a, none⟩ = some (.int .i64 (M.reg a)) := H2.out.cr a ha
  have zr := H2.out.frozen (off + 2 + a)
  have zs := (let ⟨_, _, _, _, z⟩ := H2.out.s.form (by rw [H2.out.l.1.1]; have := HL.out; omega); z f)
  obtain ⟨zI, TI, FI⟩ := KI2.open_
  dsimp only at *
  have i5 : (0 : Int) ≤ (f : Int) := by omega
  have i2 : (f : Int) < (n : Int) := by have := HL.out; omega
  have i3 : (0 : Int) ≤ (a : Int) := by omega
  have i4 : (a : Int) < 16 := by omega
  have i6 : ¬ (f : Int) < 0 := by omega
  have hblt := H2.out.lt
  have hglt := H2.out.gs
  have hgs : gs ≠ b := (H2.out.as_ (by have := HL.out; omega))
  dsimp only at hblt hglt
  have hgs' : b ≠ gs := Ne.symm hgs
  have hgI : gs ≠ w.heap.size := by omega
  have hgI' : w.heap.size ≠ gs := Ne.symm hgI
  have HRs := Lib.hid hRs; have HAs := Lib.hid hAs; have HN := Lib.hid hn; have HCS := Lib.hid hcs
  clear KI2 hRs hAs ssv hn
  have h0 := HE.out
  rw [h0] at es
  clear h0
  go_wp2_with fail
  go_ret
  exact ⟨rfl, H2.out.matE rfl, by repeat' (first | with_reducible (first | assumption | apply Fr.refl | apply Fr.drew | apply Fr.drewN | apply Fr.alloc | apply Fr.set) | exact .inl rfl | exact .inr (.inl rfl) | exact .inr (.inr rfl) | (apply Fr.of; assumption))⟩
theorem rs_14_empty (h : MOn w P M vm vs vc vi vo sv) (hB : MBd M) (a f : Nat) (ha : a < 16) (i c d : Int) (i0 : 0 ≤ i) (i1 : i ≤ 16384) (hf : find M i = f) (hk : f < M.s.length) (he : (M.stk f).length = 0) :
    SC w P (14) ((a : Nat)) (i) (c) (d) ((13, M)) := by
  unfold SC
  have HE := Lib.hid he; clear he
  have HB := Lib.hid hB; have HF := Lib.hid hf; have HL := Lib.hid hk
  have hst := hB.stk f; have HST := Lib.hid hst
  have hgm0 := h.gm; have hgs0 := h.gs
  obtain ⟨w1, hw1, h1, hbw, KI, hlt, hlt0, hne0, hne⟩ := h.al 42 #[.int .u8 (14), .int .i64 ((a : Nat)), .int .i64 (i), .int .i64 (c), .int .i64 (d)]; have H1 := Lib.hid h1; obtain ⟨er_a, zr_a, i0_a, i1_a⟩ := h1.rg a ha; have HKI := Lib.hid KI; obtain ⟨zI, TI, FI⟩ := KI.open_; obtain ⟨b, tt, pre, post, off, gm, gs, fx⟩ := P; dsimp only at *; clear h h1 KI hB hf hk hst
  go_enter Tryd.func35, Tryd.ntmps35
  go_wp2_with fail
  rw [← hw1]
  clear hw1
  refine wp_region_held_drew (S := fun W => Below w1.heap.size w1 W) (by kernel_rfl) ((Below.refl _ _).drew) (fun hH => ?_)
  refine tkH 0 (v := ?_) rfl (by kernel_rfl) (fun _ _ _ h => h) (by rfl) ?hy hH ?_
  case hy => (intro w9_ hS9; clear hS9; go_simp; try with_reducible rfl)
  (try simp only [Bk.PU, Act.put])
  refine tkH 1 (v := ?_) rfl (by kernel_rfl) (fun _ _ _ h => h) (by rfl) ?hy hH ?_
  case hy => (intro w9_ hS9; clear hS9; go_simp; try with_reducible rfl)
  (try simp only [Bk.PU, Act.put])
  refine wpAnyH_take (i := 2) (v := _) rfl (by kernel_rfl) (by kernel_rfl) (by kernel_rfl) (fun _ _ _ h => h) (Or.inl ⟨by rfl, yields_load 30 (x := .tmp 341) rfl rfl (fun W hW => load_mach (H1.out.next hW).rd)⟩) hH ?_
  (try simp only [Bk.PU, Act.put])
  refine tkH 3 (v := ?_) rfl (by kernel_rfl) (fun _ _ _ h => h) (by rfl) ?hy hH ?_
  case hy => (intro w9_ hS9; clear hS9; go_simp; try with_reducible rfl)
  (try simp only [Bk.PU, Act.put])
  refine tkH 4 (v := ?_) rfl (by kernel_rfl) (fun _ _ _ h => h) (by rfl) ?hy hH ?_
  case hy => (intro w9_ hS9; have T9 := (HKI.out.next hS9).cell; clear hS9; go_simp; try with_reducible rfl)
  (try simp only [Bk.PU, Act.put])
  refine wpAnyH_ready (rs := [5]) (by kernel_rfl) (by simp) ?_
  refine AllReadyH.cons rfl (fun K hK => ?_) (AllReadyH.nil)
  go_simp
  refine (c_rstackIn (H1.out.next hH).rd.mls i i0 i1 HB.out.s0 HB.out.s1 f HF.out HL.out).mono ?_
  rintro e w2 ⟨rfl, hb2⟩
  replace hH := hH.next hb2
  clear hb2
  refine hK.out _ _ hH (fun _ => ?_)
  clear hK
  (try simp only [Bk.PU, Act.put])
  refine tkH 6 (v := ?_) rfl (by kernel_rfl) (fun _ _ _ h => h) (by rfl) ?hy hH ?_
  case hy => (intro w9_ hS9; clear hS9; go_simp; try with_reducible rfl)
  (try simp only [Bk.PU, Act.put])
  refine wpAnyH_done (by kernel_rfl) ?_ _
  have hB2 : Below w1.heap.size w1 w2 := hH
  have H2 := Lib.hid (H1.out.next hB2)
  have hBw2 : Below w.heap.size w w2 := hbw.next hB2
  have KI2 : Blk w2 w.heap.size 42 #[.int .u8 (14), .int .i64 (a), .int .i64 (i), .int .i64 (c), .int .i64 (d)] := HKI.out.next hB2
  have HKI2 := Lib.hid KI2
  clear er_a zr_a zI TI FI
  obtain ⟨n, cap, rfl, hn, As, cs, es, hcs, hAs, hRs, ssv⟩ := H2.out.sv f HL.out
  have e19 := H2.out.c19
  have er : w2.cell? ⟨b, off + 2 + a, none⟩ = some (.int .i64 (M.reg a)) := H2.out.cr a ha
  have zr := H2.out.frozen (off + 2 + a)
  have zs := (let ⟨_, _, _, _, z⟩ := H2.out.s.form (by rw [H2.out.l.1.1]; have := HL.out; omega); z f)
  obtain ⟨zI, TI, FI⟩ := KI2.open_
  dsimp only at *
  have i5 : (0 : Int) ≤ (f : Int) := by omega
  have i2 : (f : Int) < (n : Int) := by have := HL.out; omega
  have i3 : (0 : Int) ≤ (a : Int) := by omega
  have i4 : (a : Int) < 16 := by omega
  have i6 : ¬ (f : Int) < 0 := by omega
  have hblt := H2.out.lt
  have hglt := H2.out.gs
  have hgs : gs ≠ b := (H2.out.as_ (by have := HL.out; omega))
  dsimp only at hblt hglt
  have hgs' : b ≠ gs := Ne.symm hgs
  have hgI : gs ≠ w.heap.size := by omega
  have hgI' : w.heap.size ≠ gs := Ne.symm hgI
  have HRs := Lib.hid hRs; have HAs := Lib.hid hAs; have HN := Lib.hid hn; have HCS := Lib.hid hcs
  clear KI2 hRs hAs ssv hn
  have h0 := HE.out
  rw [h0] at es
  clear h0
  go_wp2_with fail
  go_ret
  exact ⟨rfl, H2.out.matE rfl, by repeat' (first | with_reducible (first | assumption | apply Fr.refl | apply Fr.drew | apply Fr.drewN | apply Fr.alloc | apply Fr.set) | exact .inl rfl | exact .inr (.inl rfl) | exact .inr (.inr rfl) | (apply Fr.of; assumption))⟩
theorem rs_14 (h : MOn w P M vm vs vc vi vo sv) (hB : MBd M) (a f : Nat) (ha : a < 16) (i c d : Int) (i0 : 0 ≤ i) (i1 : i ≤ 16384) (hf : find M i = f) (hk : f < M.s.length) (he : (M.stk f).length ≠ 0) :
    SC w P (14) ((a : Nat)) (i) (c) (d) ((0, M.setR a (xor64 (M.reg a) ((M.stk f).getLastD 0)))) := by
  unfold SC
  have HE := Lib.hid he; clear he
  have HB := Lib.hid hB; have HF := Lib.hid hf; have HL := Lib.hid hk
  have hst := hB.stk f; have HST := Lib.hid hst
  have hgm0 := h.gm; have hgs0 := h.gs
  obtain ⟨w1, hw1, h1, hbw, KI, hlt, hlt0, hne0, hne⟩ := h.al 42 #[.int .u8 (14), .int .i64 ((a : Nat)), .int .i64 (i), .int .i64 (c), .int .i64 (d)]; have H1 := Lib.hid h1; obtain ⟨er_a, zr_a, i0_a, i1_a⟩ := h1.rg a ha; have HKI := Lib.hid KI; obtain ⟨zI, TI, FI⟩ := KI.open_; obtain ⟨b, tt, pre, post, off, gm, gs, fx⟩ := P; dsimp only at *; clear h h1 KI hB hf hk hst
  go_enter Tryd.func35, Tryd.ntmps35
  go_wp2_with fail
  rw [← hw1]
  clear hw1
  refine wp_region_held_drew (S := fun W => Below w1.heap.size w1 W) (by kernel_rfl) ((Below.refl _ _).drew) (fun hH => ?_)
  refine tkH 0 (v := ?_) rfl (by kernel_rfl) (fun _ _ _ h => h) (by rfl) ?hy hH ?_
  case hy => (intro w9_ hS9; clear hS9; go_simp; try with_reducible rfl)
  (try simp only [Bk.PU, Act.put])
  refine tkH 1 (v := ?_) rfl (by kernel_rfl) (fun _ _ _ h => h) (by rfl) ?hy hH ?_
  case hy => (intro w9_ hS9; clear hS9; go_simp; try with_reducible rfl)
  (try simp only [Bk.PU, Act.put])
  refine wpAnyH_take (i := 2) (v := _) rfl (by kernel_rfl) (by kernel_rfl) (by kernel_rfl) (fun _ _ _ h => h) (Or.inl ⟨by rfl, yields_load 30 (x := .tmp 341) rfl rfl (fun W hW => load_mach (H1.out.next hW).rd)⟩) hH ?_
  (try simp only [Bk.PU, Act.put])
  refine tkH 3 (v := ?_) rfl (by kernel_rfl) (fun _ _ _ h => h) (by rfl) ?hy hH ?_
  case hy => (intro w9_ hS9; clear hS9; go_simp; try with_reducible rfl)
  (try simp only [Bk.PU, Act.put])
  refine tkH 4 (v := ?_) rfl (by kernel_rfl) (fun _ _ _ h => h) (by rfl) ?hy hH ?_
  case hy => (intro w9_ hS9; have T9 := (HKI.out.next hS9).cell; clear hS9; go_simp; try with_reducible rfl)
  (try simp only [Bk.PU, Act.put])
  refine wpAnyH_ready (rs := [5]) (by kernel_rfl) (by simp) ?_
  refine AllReadyH.cons rfl (fun K hK => ?_) (AllReadyH.nil)
  go_simp
  refine (c_rstackIn (H1.out.next hH).rd.mls i i0 i1 HB.out.s0 HB.out.s1 f HF.out HL.out).mono ?_
  rintro e w2 ⟨rfl, hb2⟩
  replace hH := hH.next hb2
  clear hb2
  refine hK.out _ _ hH (fun _ => ?_)
  clear hK
  (try simp only [Bk.PU, Act.put])
  refine tkH 6 (v := ?_) rfl (by kernel_rfl) (fun _ _ _ h => h) (by rfl) ?hy hH ?_
  case hy => (intro w9_ hS9; clear hS9; go_simp; try with_reducible rfl)
  (try simp only [Bk.PU, Act.put])
  refine wpAnyH_done (by kernel_rfl) ?_ _
  have hB2 : Below w1.heap.size w1 w2 := hH
  have H2 := Lib.hid (H1.out.next hB2)
  have hBw2 : Below w.heap.size w w2 := hbw.next hB2
  have KI2 : Blk w2 w.heap.size 42 #[.int .u8 (14), .int .i64 (a), .int .i64 (i), .int .i64 (c), .int .i64 (d)] := HKI.out.next hB2
  have HKI2 := Lib.hid KI2
  clear er_a zr_a zI TI FI
  obtain ⟨n, cap, rfl, hn, As, cs, es, hcs, hAs, hRs, ssv⟩ := H2.out.sv f HL.out
  have e19 := H2.out.c19
  have er : w2.cell? ⟨b, off + 2 + a, none⟩ = some (.int .i64 (M.reg a)) := H2.out.cr a ha
  have zr := H2.out.frozen (off + 2 + a)
  have zs := (let ⟨_, _, _, _, z⟩ := H2.out.s.form (by rw [H2.out.l.1.1]; have := HL.out; omega); z f)
  obtain ⟨zI, TI, FI⟩ := KI2.open_
  dsimp only at *
  have i5 : (0 : Int) ≤ (f : Int) := by omega
  have i2 : (f : Int) < (n : Int) := by have := HL.out; omega
  have i3 : (0 : Int) ≤ (a : Int) := by omega
  have i4 : (a : Int) < 16 := by omega
  have i6 : ¬ (f : Int) < 0 := by omega
  have hblt := H2.out.lt
  have hglt := H2.out.gs
  have hgs : gs ≠ b := (H2.out.as_ (by have := HL.out; omega))
  dsimp only at hblt hglt
  have hgs' : b ≠ gs := Ne.symm hgs
  have hgI : gs ≠ w.heap.size := by omega
  have hgI' : w.heap.size ≠ gs := Ne.symm hgI
  have HRs := Lib.hid hRs; have HAs := Lib.hid hAs; have HN := Lib.hid hn; have HCS := Lib.hid hcs
  clear KI2 hRs hAs ssv hn
  obtain ⟨m, hm⟩ : ∃ m, (M.stk f).length = m + 1 := ⟨(M.stk f).length - 1, by have := HE.out; omega⟩
  have hRs := HRs.out
  rw [hm] at es hcs hRs
  obtain ⟨bs, os, rfl, _, hcell⟩ := hRs.2 (by omega)
  have el := hcell m _ (intCells_get (M.stk f) m (by omega))
  rw [last_get hm] at el
  generalize hlv : (M.stk f).getLastD 0 = lv at *
  have HLV := Lib.hid hlv; clear hlv
  have j1 : (0 : Int) ≤ (m : Int) := by omega
  have j2 : (m : Int) < (m : Int) + 1 := by omega
  have j3 : (m : Int) ≤ 17592186044400 := by have := HST.out; omega
  have hcs' : m ≤ cs := by omega
  have HCell := Lib.hid hcell; have HM1 := Lib.hid hm; have HRs' := Lib.hid hRs
  clear hcell hm hRs
  go_wp2_with fail
  go_region
  go_wp2_with fail
  go_ret
  exact ⟨rfl, (H2.out.setReg a ha _).matE rfl, by repeat' (first | with_reducible (first | assumption | apply Fr.refl | apply Fr.drew | apply Fr.drewN | apply Fr.alloc | apply Fr.set) | exact .inl rfl | exact .inr (.inl rfl) | exact .inr (.inr rfl) | (apply Fr.of; assumption))⟩
end Go.Proofs.YteocbllbljeajaaDoor

/- straight: push, pop. -/
set_option maxRecDepth 100000
set_option maxHeartbeats 8000000
set_option maxRecDepth 100000
set_option linter.unusedVariables false
set_option linter.unusedSimpArgs false
namespace Go.Proofs.YteocbllbljeajaaDoor
open Go.RowKit Bk
variable {w : World} {D : Nat → Prop} {P : Pl} {M : Mach} {vm vs vc vi vo : Value} {sv : List Value}
theorem rs_13_clear (h : MOn w P M vm vs vc vi vo sv) (hB : MBd M) (a f : Nat) (ha : a < 16) (i c d : Int) (i0 : 0 ≤ i) (i1 : i ≤ 16384) (hf : find M i = f) (hk : f < M.s.length) (he : (M.stk f).length ≠ 0) (hr : M.reg a ≠ 0) :
    SC w P (13) ((a : Nat)) (i) (c) (d) ((14, M)) := by
  unfold SC
  have HE := Lib.hid he; clear he
  have HR := Lib.hid hr; clear hr
  have HB := Lib.hid hB; have HF := Lib.hid hf; have HL := Lib.hid hk
  have hst := hB.stk f; have HST := Lib.hid hst
  have hgm0 := h.gm; have hgs0 := h.gs
  obtain ⟨w1, hw1, h1, hbw, KI, hlt, hlt0, hne0, hne⟩ := h.al 42 #[.int .u8 (13), .int .i64 ((a : Nat)), .int .i64 (i), .int .i64 (c), .int .i64 (d)]; have H1 := Lib.hid h1; obtain ⟨er_a, zr_a, i0_a, i1_a⟩ := h1.rg a ha; have HKI := Lib.hid KI; obtain ⟨zI, TI, FI⟩ := KI.open_; obtain ⟨b, tt, pre, post, off, gm, gs, fx⟩ := P; dsimp only at *; clear h h1 KI hB hf hk hst
  go_enter Tryd.func35, Tryd.ntmps35
  go_wp2_with fail
  rw [← hw1]
  clear hw1
  refine wp_region_held_drew (S := fun W => Below w1.heap.size w1 W) (by kernel_rfl) ((Below.refl _ _).drew) (fun hH => ?_)
  refine tkH 0 (v := ?_) rfl (by kernel_rfl) (fun _ _ _ h => h) (by rfl) ?hy hH ?_
  case hy => (intro w9_ hS9; clear hS9; go_simp; try with_reducible rfl)
  (try simp only [Bk.PU, Act.put])
  refine tkH 1 (v := ?_) rfl (by kernel_rfl) (fun _ _ _ h => h) (by rfl) ?hy hH ?_
  case hy => (intro w9_ hS9; clear hS9; go_simp; try with_reducible rfl)
  (try simp only [Bk.PU, Act.put])
  refine wpAnyH_take (i := 2) (v := _) rfl (by kernel_rfl) (by kernel_rfl) (by kernel_rfl) (fun _ _ _ h => h) (Or.inl ⟨by rfl, yields_load 30 (x := .tmp 341) rfl rfl (fun W hW => load_mach (H1.out.next hW).rd)⟩) hH ?_
  (try simp only [Bk.PU, Act.put])
  refine tkH 3 (v := ?_) rfl (by kernel_rfl) (fun _ _ _ h => h) (by rfl) ?hy hH ?_
  case hy => (intro w9_ hS9; clear hS9; go_simp; try with_reducible rfl)
  (try simp only [Bk.PU, Act.put])
  refine tkH 4 (v := ?_) rfl (by kernel_rfl) (fun _ _ _ h => h) (by rfl) ?hy hH ?_
  case hy => (intro w9_ hS9; have T9 := (HKI.out.next hS9).cell; clear hS9; go_simp; try with_reducible rfl)
  (try simp only [Bk.PU, Act.put])
  refine wpAnyH_ready (rs := [5]) (by kernel_rfl) (by simp) ?_
  refine AllReadyH.cons rfl (fun K hK => ?_) (AllReadyH.nil)
  go_simp
  refine (c_rstackIn (H1.out.next hH).rd.mls i i0 i1 HB.out.s0 HB.out.s1 f HF.out HL.out).mono ?_
  rintro e w2 ⟨rfl, hb2⟩
  replace hH := hH.next hb2
  clear hb2
  refine hK.out _ _ hH (fun _ => ?_)
  clear hK
  (try simp only [Bk.PU, Act.put])
  refine tkH 6 (v := ?_) rfl (by kernel_rfl) (fun _ _ _ h => h) (by rfl) ?hy hH ?_
  case hy => (intro w9_ hS9; clear hS9; go_simp; try with_reducible rfl)
  (try simp only [Bk.PU, Act.put])
  refine wpAnyH_done (by kernel_rfl) ?_ _
  have hB2 : Below w1.heap.size w1 w2 := hH
  have H2 := Lib.hid (H1.out.next hB2)
  have hBw2 : Below w.heap.size w w2 := hbw.next hB2
  have KI2 : Blk w2 w.heap.size 42 #[.int .u8 (13), .int .i64 (a), .int .i64 (i), .int .i64 (c), .int .i64 (d)] := HKI.out.next hB2
  have HKI2 := Lib.hid KI2
  clear er_a zr_a zI TI FI
  obtain ⟨n, cap, rfl, hn, As, cs, es, hcs, hAs, hRs, ssv⟩ := H2.out.sv f HL.out
  have e19 := H2.out.c19
  have er : w2.cell? ⟨b, off + 2 + a, none⟩ = some (.int .i64 (M.reg a)) := H2.out.cr a ha
  have zr := H2.out.frozen (off + 2 + a)
  have zs := (let ⟨_, _, _, _, z⟩ := H2.out.s.form (by rw [H2.out.l.1.1]; have := HL.out; omega); z f)
  obtain ⟨zI, TI, FI⟩ := KI2.open_
  dsimp only at *
  have i5 : (0 : Int) ≤ (f : Int) := by omega
  have i2 : (f : Int) < (n : Int) := by have := HL.out; omega
  have i3 : (0 : Int) ≤ (a : Int) := by omega
  have i4 : (a : Int) < 16 := by omega
  have i6 : ¬ (f : Int) < 0 := by omega
  have hblt := H2.out.lt
  have hglt := H2.out.gs
  have hgs : gs ≠ b := (H2.out.as_ (by have := HL.out; omega))
  dsimp only at hblt hglt
  have hgs' : b ≠ gs := Ne.symm hgs
  have hgI : gs ≠ w.heap.size := by omega
  have hgI' : w.heap.size ≠ gs := Ne.symm hgI
  have HRs := Lib.hid hRs; have HAs := Lib.hid hAs; have HN := Lib.hid hn; have HCS := Lib.hid hcs
  clear KI2 hRs hAs ssv hn
  have hr' : (M.reg a != 0) = true := by simpa using HR.out
  obtain ⟨m, hm⟩ : ∃ m, (M.stk f).length = m + 1 := ⟨(M.stk f).length - 1, by have := HE.out; omega⟩
  have hRs := HRs.out
  rw [hm] at es hcs hRs
  obtain ⟨bs, os, rfl, _, hcell⟩ := hRs.2 (by omega)
  have el := hcell m _ (intCells_get (M.stk f) m (by omega))
  rw [last_get hm] at el
  generalize hlv : (M.stk f).getLastD 0 = lv at *
  have HLV := Lib.hid hlv; clear hlv
  have j1 : (0 : Int) ≤ (m : Int) := by omega
  have j2 : (m : Int) < (m : Int) + 1 := by omega
  have j3 : (m : Int) ≤ 17592186044400 := by have := HST.out; omega
  have hcs' : m ≤ cs := by omega
  have HCell := Lib.hid hcell; have HM1 := Lib.hid hm; have HRs' := Lib.hid hRs
  clear hcell hm hRs
  go_wp2_with fail
  go_quiet (fail)
  go_wp2_with fail
  go_ret
  exact ⟨rfl, H2.out.matE rfl, by repeat' (first | with_reducible (first | assumption | apply Fr.refl | apply Fr.drew | apply Fr.drewN | apply Fr.alloc | apply Fr.set) | exact .inl rfl | exact .inr (.inl rfl) | exact .inr (.inr rfl) | (apply Fr.of; assumption))⟩
theorem rs_13 (h : MOn w P M vm vs vc vi vo sv) (hB : MBd M) (a f : Nat) (ha : a < 16) (i c d : Int) (i0 : 0 ≤ i) (i1 : i ≤ 16384) (hf : find M i = f) (hk : f < M.s.length) (he : (M.stk f).length ≠ 0) (hr : M.reg a = 0) :
    SC w P (13) ((a : Nat)) (i) (c) (d) ((0, (M.setR a ((M.stk f).getLastD 0)).setS f (M.stk f).dropLast)) := by
  unfold SC
  have HE := Lib.hid he; clear he
  have HR := Lib.hid hr; clear hr
  have HB := Lib.hid hB; have HF := Lib.hid hf; have HL := Lib.hid hk
  have hst := hB.stk f; have HST := Lib.hid hst
  have hgm0 := h.gm; have hgs0 := h.gs
  obtain ⟨w1, hw1, h1, hbw, KI, hlt, hlt0, hne0, hne⟩ := h.al 42 #[.int .u8 (13), .int .i64 ((a : Nat)), .int .i64 (i), .int .i64 (c), .int .i64 (d)]; have H1 := Lib.hid h1; obtain ⟨er_a, zr_a, i0_a, i1_a⟩ := h1.rg a ha; have HKI := Lib.hid KI; obtain ⟨zI, TI, FI⟩ := KI.open_; obtain ⟨b, tt, pre, post, off, gm, gs, fx⟩ := P; dsimp only at *; clear h h1 KI hB hf hk hst
  go_enter Tryd.func35, Tryd.ntmps35
  go_wp2_with fail
  rw [← hw1]
  clear hw1
  refine wp_region_held_drew (S := fun W => Below w1.heap.size w1 W) (by kernel_rfl) ((Below.refl _ _).drew) (fun hH => ?_)
  refine tkH 0 (v := ?_) rfl (by kernel_rfl) (fun _ _ _ h => h) (by rfl) ?hy hH ?_
  case hy => (intro w9_ hS9; clear hS9; go_simp; try with_reducible rfl)
  (try simp only [Bk.PU, Act.put])
  refine tkH 1 (v := ?_) rfl (by kernel_rfl) (fun _ _ _ h => h) (by rfl) ?hy hH ?_
  case hy => (intro w9_ hS9; clear hS9; go_simp; try with_reducible rfl)
  (try simp only [Bk.PU, Act.put])
  refine wpAnyH_take (i := 2) (v := _) rfl (by kernel_rfl) (by kernel_rfl) (by kernel_rfl) (fun _ _ _ h => h) (Or.inl ⟨by rfl, yields_load 30 (x := .tmp 341) rfl rfl (fun W hW => load_mach (H1.out.next hW).rd)⟩) hH ?_
  (try simp only [Bk.PU, Act.put])
  refine tkH 3 (v := ?_) rfl (by kernel_rfl) (fun _ _ _ h => h) (by rfl) ?hy hH ?_
  case hy => (intro w9_ hS9; clear hS9; go_simp; try with_reducible rfl)
  (try simp only [Bk.PU, Act.put])
  refine tkH 4 (v := ?_) rfl (by kernel_rfl) (fun _ _ _ h => h) (by rfl) ?hy hH ?_
  case hy => (intro w9_ hS9; have T9 := (HKI.out.next hS9).cell; clear hS9; go_simp; try with_reducible rfl)
  (try simp only [Bk.PU, Act.put])
  refine wpAnyH_ready (rs := [5]) (by kernel_rfl) (by simp) ?_
  refine AllReadyH.cons rfl (fun K hK => ?_) (AllReadyH.nil)
  go_simp
  refine (c_rstackIn (H1.out.next hH).rd.mls i i0 i1 HB.out.s0 HB.out.s1 f HF.out HL.out).mono ?_
  rintro e w2 ⟨rfl, hb2⟩
  replace hH := hH.next hb2
  clear hb2
  refine hK.out _ _ hH (fun _ => ?_)
  clear hK
  (try simp only [Bk.PU, Act.put])
  refine tkH 6 (v := ?_) rfl (by kernel_rfl) (fun _ _ _ h => h) (by rfl) ?hy hH ?_
  case hy => (intro w9_ hS9; clear hS9; go_simp; try with_reducible rfl)
  (try simp only [Bk.PU, Act.put])
  refine wpAnyH_done (by kernel_rfl) ?_ _
  have hB2 : Below w1.heap.size w1 w2 := hH
  have H2 := Lib.hid (H1.out.next hB2)
  have hBw2 : Below w.heap.size w w2 := hbw.next hB2
  have KI2 : Blk w2 w.heap.size 42 #[.int .u8 (13), .int .i64 (a), .int .i64 (i), .int .i64 (c), .int .i64 (d)] := HKI.out.next hB2
  have HKI2 := Lib.hid KI2
  clear er_a zr_a zI TI FI
  obtain ⟨n, cap, rfl, hn, As, cs, es, hcs, hAs, hRs, ssv⟩ := H2.out.sv f HL.out
  have e19 := H2.out.c19
  have er : w2.cell? ⟨b, off + 2 + a, none⟩ = some (.int .i64 (M.reg a)) := H2.out.cr a ha
  have zr := H2.out.frozen (off + 2 + a)
  have zs := (let ⟨_, _, _, _, z⟩ := H2.out.s.form (by rw [H2.out.l.1.1]; have := HL.out; omega); z f)
  obtain ⟨zI, TI, FI⟩ := KI2.open_
  dsimp only at *
  have i5 : (0 : Int) ≤ (f : Int) := by omega
  have i2 : (f : Int) < (n : Int) := by have := HL.out; omega
  have i3 : (0 : Int) ≤ (a : Int) := by omega
  have i4 : (a : Int) < 16 := by omega
  have i6 : ¬ (f : Int) < 0 := by omega
  have hblt := H2.out.lt
  have hglt := H2.out.gs
  have hgs : gs ≠ b := (H2.out.as_ (by have := HL.out; omega))
  dsimp only at hblt hglt
  have hgs' : b ≠ gs := Ne.symm hgs
  have hgI : gs ≠ w.heap.size := by omega
  have hgI' : w.heap.size ≠ gs := Ne.symm hgI
  have HRs := Lib.hid hRs; have HAs := Lib.hid hAs; have HN := Lib.hid hn; have HCS := Lib.hid hcs
  clear KI2 hRs hAs ssv hn
  obtain ⟨m, hm⟩ : ∃ m, (M.stk f).length = m + 1 := ⟨(M.stk f).length - 1, by have := HE.out; omega⟩
  have hRs := HRs.out
  rw [hm] at es hcs hRs
  obtain ⟨bs, os, rfl, _, hcell⟩ := hRs.2 (by omega)
  have el := hcell m _ (intCells_get (M.stk f) m (by omega))
  rw [last_get hm] at el
  generalize hlv : (M.stk f).getLastD 0 = lv at *
  have HLV := Lib.hid hlv; clear hlv
  have j1 : (0 : Int) ≤ (m : Int) := by omega
  have j2 : (m : Int) < (m : Int) + 1 := by omega
  have j3 : (m : Int) ≤ 17592186044400 := by have := HST.out; omega
  have hcs' : m ≤ cs := by omega
  have HCell := Lib.hid hcell; have HM1 := Lib.hid hm; have HRs' := Lib.hid hRs
  clear hcell hm hRs
  rw [HR.out] at er
  go_wp2_with fail
  go_quiet (fail)
  go_wp2_with fail
  refine wp_nameY ?_
  intro w3 hw3
  have H3 := Lib.hid (show MOn w3 ⟨b, tt, pre, post, off, gm, gs, fx⟩ _ _ _ _ _ _ _ from by rw [hw3]; exact H2.out.heap rfl)
  have q1 : w3.cell? ⟨b, off + 2 + a, none⟩ = some (.int .i64 0) := by rw [hw3]; exact er
  have q2 : w3.frozen? ⟨b, off + 2 + a, none⟩ = false := by rw [hw3]; exact zr
  have q3 : ∀ ix, w3.cell? ⟨w.heap.size, ix, none⟩ = #[Value.int .u8 13, .int .i64 a, .int .i64 i, .int .i64 c, .int .i64 d][ix]? := by rw [hw3]; exact TI
  have q4 : w3.cell? ⟨b, off + 19, none⟩ = some (.slice (some ⟨gs, 0, none⟩) n cap) := by rw [hw3]; exact e19
  have q5 : w3.cell? ⟨gs, f, none⟩ = some (.slice (some ⟨bs, os, none⟩) (m + 1) cs) := by rw [hw3]; exact es
  have q6 : w3.frozen? ⟨gs, f, none⟩ = false := by rw [hw3]; exact zs
  have q7 : w3.cell? ⟨bs, os + m, none⟩ = some (.int .i64 lv) := by rw [hw3]; exact el
  have HF3 : Hid (Fr (Pl.O ⟨b, tt, pre, post, off, gm, gs, fx⟩) w w3) := Lib.hid (by rw [hw3]; exact (Fr.of hBw2).drewN _)
  have HR3 : Hid (Rd w3 (Pl.D ⟨b, tt, pre, post, off, gm, gs, fx⟩ w3) 1 (some ⟨bs, os, none⟩) (m + 1) (intCells (M.stk f))) := Lib.hid (by rw [hw3]; exact HRs'.out)
  clear hw3 er zr zI TI FI e19 es zs el hB2 hBw2 hbw H1 H2 HKI HKI2 HRs HRs' hH
  go_region
  go_wp2_with fail
  go_region
  go_wp2_with fail
  go_ret
  exact ⟨rfl, ((H3.out.setReg a ha _).setStk f HL.out _ _ ((Sl.pop HM1.out hcs HAs.out HR3.out).keep MOn.keep1 MOn.dset)).matE rfl, by have HF := HF3.out; repeat' (first | with_reducible (first | assumption | apply Fr.refl | apply Fr.drew | apply Fr.drewN | apply Fr.alloc | apply Fr.set) | exact .inl rfl | exact .inr (.inl rfl) | exact .inr (.inr rfl) | (apply Fr.of; assumption))⟩
theorem rs_12_full (h : MOn w P M vm vs vc vi vo sv) (hB : MBd M) (a f : Nat) (ha : a < 16) (i c d : Int) (i0 : 0 ≤ i) (i1 : i ≤ 16384) (hf : find M i = f) (hk : f < M.s.length) (h0 : f ≠ 0) (hr : 1000 ≤ (M.stk f).length) :
    SC w P (12) ((a : Nat)) (i) (c) (d) ((5, M)) := by
  unfold SC
  have H0 := Lib.hid h0; have HR := Lib.hid hr; clear h0 hr
  have HB := Lib.hid hB; have HF := Lib.hid hf; have HL := Lib.hid hk
  have hst := hB.stk f; have HST := Lib.hid hst
  have hgm0 := h.gm; have hgs0 := h.gs
  obtain ⟨w1, hw1, h1, hbw, KI, hlt, hlt0, hne0, hne⟩ := h.al 42 #[.int .u8 (12), .int .i64 ((a : Nat)), .int .i64 (i), .int .i64 (c), .int .i64 (d)]; have H1 := Lib.hid h1; obtain ⟨er_a, zr_a, i0_a, i1_a⟩ := h1.rg a ha; have HKI := Lib.hid KI; obtain ⟨zI, TI, FI⟩ := KI.open_; obtain ⟨b, tt, pre, post, off, gm, gs, fx⟩ := P; dsimp only at *; clear h h1 KI hB hf hk hst
  go_enter Tryd.func35, Tryd.ntmps35
  go_wp2_with fail
  rw [← hw1]
  clear hw1
  refine wp_region_held_drew (S := fun W => Below w1.heap.size w1 W) (by kernel_rfl) ((Below.refl _ _).drew) (fun hH => ?_)
  refine tkH 0 (v := ?_) rfl (by kernel_rfl) (fun _ _ _ h => h) (by rfl) ?hy hH ?_
  case hy => (intro w9_ hS9; clear hS9; go_simp; try with_reducible rfl)
  (try simp only [Bk.PU, Act.put])
  refine tkH 1 (v := ?_) rfl (by kernel_rfl) (fun _ _ _ h => h) (by rfl) ?hy hH ?_
  case hy => (intro w9_ hS9; clear hS9; go_simp; try with_reducible rfl)
  (try simp only [Bk.PU, Act.put])
  refine wpAnyH_take (i := 2) (v := _) rfl (by kernel_rfl) (by kernel_rfl) (by kernel_rfl) (fun _ _ _ h => h) (Or.inl ⟨by rfl, yields_load 30 (x := .tmp 341) rfl rfl (fun W hW => load_mach (H1.out.next hW).rd)⟩) hH ?_
  (try simp only [Bk.PU, Act.put])
  refine tkH 3 (v := ?_) rfl (by kernel_rfl) (fun _ _ _ h => h) (by rfl) ?hy hH ?_
  case hy => (intro w9_ hS9; clear hS9; go_simp; try with_reducible rfl)
  (try simp only [Bk.PU, Act.put])
  refine tkH 4 (v := ?_) rfl (by kernel_rfl) (fun _ _ _ h => h) (by rfl) ?hy hH ?_
  case hy => (intro w9_ hS9; have T9 := (HKI.out.next hS9).cell; clear hS9; go_simp; try with_reducible rfl)
  (try simp only [Bk.PU, Act.put])
  refine wpAnyH_ready (rs := [5]) (by kernel_rfl) (by simp) ?_
  refine AllReadyH.cons rfl (fun K hK => ?_) (AllReadyH.nil)
  go_simp
  refine (c_rstackIn (H1.out.next hH).rd.mls i i0 i1 HB.out.s0 HB.out.s1 f HF.out HL.out).mono ?_
  rintro e w2 ⟨rfl, hb2⟩
  replace hH := hH.next hb2
  clear hb2
  refine hK.out _ _ hH (fun _ => ?_)
  clear hK
  (try simp only [Bk.PU, Act.put])
  refine tkH 6 (v := ?_) rfl (by kernel_rfl) (fun _ _ _ h => h) (by rfl) ?hy hH ?_
  case hy => (intro w9_ hS9; clear hS9; go_simp; try with_reducible rfl)
  (try simp only [Bk.PU, Act.put])
  refine wpAnyH_done (by kernel_rfl) ?_ _
  have hB2 : Below w1.heap.size w1 w2 := hH
  have H2 := Lib.hid (H1.out.next hB2)
  have hBw2 : Below w.heap.size w w2 := hbw.next hB2
  have KI2 : Blk w2 w.heap.size 42 #[.int .u8 (12), .int .i64 (a), .int .i64 (i), .int .i64 (c), .int .i64 (d)] := HKI.out.next hB2
  have HKI2 := Lib.hid KI2
  clear er_a zr_a zI TI FI
  obtain ⟨n, cap, rfl, hn, As, cs, es, hcs, hAs, hRs, ssv⟩ := H2.out.sv f HL.out
  have e19 := H2.out.c19
  have er : w2.cell? ⟨b, off + 2 + a, none⟩ = some (.int .i64 (M.reg a)) := H2.out.cr a ha
  have zr := H2.out.frozen (off + 2 + a)
  have zs := (let ⟨_, _, _, _, z⟩ := H2.out.s.form (by rw [H2.out.l.1.1]; have := HL.out; omega); z f)
  obtain ⟨zI, TI, FI⟩ := KI2.open_
  dsimp only at *
  have i5 : (0 : Int) ≤ (f : Int) := by omega
  have i2 : (f : Int) < (n : Int) := by have := HL.out; omega
  have i3 : (0 : Int) ≤ (a : Int) := by omega
  have i4 : (a : Int) < 16 := by omega
  have i6 : ¬ (f : Int) < 0 := by omega
  have hblt := H2.out.lt
  have hglt := H2.out.gs
  have hgs : gs ≠ b := (H2.out.as_ (by have := HL.out; omega))
  dsimp only at hblt hglt
  have hgs' : b ≠ gs := Ne.symm hgs
  have hgI : gs ≠ w.heap.size := by omega
  have hgI' : w.heap.size ≠ gs := Ne.symm hgI
  have HRs := Lib.hid hRs; have HAs := Lib.hid hAs; have HN := Lib.hid hn; have HCS := Lib.hid hcs
  clear KI2 hRs hAs ssv hn
  have h0' : ((f : Int) != 0) = true := by have := H0.out; simpa using this
  have hr' : decide (1000 ≤ ((M.stk f).length : Int)) = true := by have := HR.out; simp; omega
  have h1 := HST.out
  go_wp2_with fail
  go_ret
  exact ⟨rfl, H2.out.matE rfl, by repeat' (first | with_reducible (first | assumption | apply Fr.refl | apply Fr.drew | apply Fr.drewN | apply Fr.alloc | apply Fr.set) | exact .inl rfl | exact .inr (.inl rfl) | exact .inr (.inr rfl) | (apply Fr.of; assumption))⟩
end Go.Proofs.YteocbllbljeajaaDoor

/- straight: push. -/
set_option maxRecDepth 100000
set_option maxHeartbeats 8000000
set_option maxRecDepth 100000
set_option linter.unusedVariables false
set_option linter.unusedSimpArgs false
namespace Go.Proofs.YteocbllbljeajaaDoor
open Go.RowKit Bk
variable {w : World} {D : Nat → Prop} {P : Pl} {M : Mach} {vm vs vc vi vo : Value} {sv : List Value}
theorem rs_12a (h : MOn w P M vm vs vc vi vo sv) (hB : MBd M) (a f : Nat) (ha : a < 16) (i c d : Int) (i0 : 0 ≤ i) (i1 : i ≤ 16384) (hf : find M i = f) (hk : f < M.s.length) (hz : f = 0) :
    SC w P (12) ((a : Nat)) (i) (c) (d) ((0, (M.setS f (M.stk f ++ [M.reg a])).setR a 0)) := by
  unfold SC
  have HZ := Lib.hid hz; clear hz
  have HB := Lib.hid hB; have HF := Lib.hid hf; have HL := Lib.hid hk
  have hst := hB.stk f; have HST := Lib.hid hst
  have hgm0 := h.gm; have hgs0 := h.gs
  obtain ⟨w1, hw1, h1, hbw, KI, hlt, hlt0, hne0, hne⟩ := h.al 42 #[.int .u8 (12), .int .i64 ((a : Nat)), .int .i64 (i), .int .i64 (c), .int .i64 (d)]; have H1 := Lib.hid h1; obtain ⟨er_a, zr_a, i0_a, i1_a⟩ := h1.rg a ha; have HKI := Lib.hid KI; obtain ⟨zI, TI, FI⟩ := KI.open_; obtain ⟨b, tt, pre, post, off, gm, gs, fx⟩ := P; dsimp only at *; clear h h1 KI hB hf hk hst
  go_enter Tryd.func35, Tryd.ntmps35
  go_wp2_with fail
  rw [← hw1]
  clear hw1
  refine wp_region_held_drew (S := fun W => Below w1.heap.size w1 W) (by kernel_rfl) ((Below.refl _ _).drew) (fun hH => ?_)
  refine tkH 0 (v := ?_) rfl (by kernel_rfl) (fun _ _ _ h => h) (by rfl) ?hy hH ?_
  case hy => (intro w9_ hS9; clear hS9; go_simp; try with_reducible rfl)
  (try simp only [Bk.PU, Act.put])
  refine tkH 1 (v := ?_) rfl (by kernel_rfl) (fun _ _ _ h => h) (by rfl) ?hy hH ?_
  case hy => (intro w9_ hS9; clear hS9; go_simp; try with_reducible rfl)
  (try simp only [Bk.PU, Act.put])
  refine wpAnyH_take (i := 2) (v := _) rfl (by kernel_rfl) (by kernel_rfl) (by kernel_rfl) (fun _ _ _ h => h) (Or.inl ⟨by rfl, yields_load 30 (x := .tmp 341) rfl rfl (fun W hW => load_mach (H1.out.next hW).rd)⟩) hH ?_
  (try simp only [Bk.PU, Act.put])
  refine tkH 3 (v := ?_) rfl (by kernel_rfl) (fun _ _ _ h => h) (by rfl) ?hy hH ?_
  case hy => (intro w9_ hS9; clear hS9; go_simp; try with_reducible rfl)
  (try simp only [Bk.PU, Act.put])
  refine tkH 4 (v := ?_) rfl (by kernel_rfl) (fun _ _ _ h => h) (by rfl) ?hy hH ?_
  case hy => (intro w9_ hS9; have T9 := (HKI.out.next hS9).cell; clear hS9; go_simp; try with_reducible rfl)
  (try simp only [Bk.PU, Act.put])
  refine wpAnyH_ready (rs := [5]) (by kernel_rfl) (by simp) ?_
  refine AllReadyH.cons rfl (fun K hK => ?_) (AllReadyH.nil)
  go_simp
  refine (c_rstackIn (H1.out.next hH).rd.mls i i0 i1 HB.out.s0 HB.out.s1 f HF.out HL.out).mono ?_
  rintro e w2 ⟨rfl, hb2⟩
  replace hH := hH.next hb2
  clear hb2
  refine hK.out _ _ hH (fun _ => ?_)
  clear hK
  (try simp only [Bk.PU, Act.put])
  refine tkH 6 (v := ?_) rfl (by kernel_rfl) (fun _ _ _ h => h) (by rfl) ?hy hH ?_
  case hy => (intro w9_ hS9; clear hS9; go_simp; try with_reducible rfl)
  (try simp only [Bk.PU, Act.put])
  refine wpAnyH_done (by kernel_rfl) ?_ _
  have hB2 : Below w1.heap.size w1 w2 := hH
  have H2 := Lib.hid (H1.out.next hB2)
  have hBw2 : Below w.heap.size w w2 := hbw.next hB2
  have KI2 : Blk w2 w.heap.size 42 #[.int .u8 (12), .int .i64 (a), .int .i64 (i), .int .i64 (c), .int .i64 (d)] := HKI.out.next hB2
  have HKI2 := Lib.hid KI2
  clear er_a zr_a zI TI FI
  obtain ⟨n, cap, rfl, hn, As, cs, es, hcs, hAs, hRs, ssv⟩ := H2.out.sv f HL.out
  have e19 := H2.out.c19
  have er : w2.cell? ⟨b, off + 2 + a, none⟩ = some (.int .i64 (M.reg a)) := H2.out.cr a ha
  have zr := H2.out.frozen (off + 2 + a)
  have zs := (let ⟨_, _, _, _, z⟩ := H2.out.s.form (by rw [H2.out.l.1.1]; have := HL.out; omega); z f)
  obtain ⟨zI, TI, FI⟩ := KI2.open_
  dsimp only at *
  have i5 : (0 : Int) ≤ (f : Int) := by omega
  have i2 : (f : Int) < (n : Int) := by have := HL.out; omega
  have i3 : (0 : Int) ≤ (a : Int) := by omega
  have i4 : (a : Int) < 16 := by omega
  have i6 : ¬ (f : Int) < 0 := by omega
  have hblt := H2.out.lt
  have hglt := H2.out.gs
  have hgs : gs ≠ b := (H2.out.as_ (by have := HL.out; omega))
  dsimp only at hblt hglt
  have hgs' : b ≠ gs := Ne.symm hgs
  have hgI : gs ≠ w.heap.size := by omega
  have hgI' : w.heap.size ≠ gs := Ne.symm hgI
  have HRs := Lib.hid hRs; have HAs := Lib.hid hAs; have HN := Lib.hid hn; have HCS := Lib.hid hcs
  clear KI2 hRs hAs ssv hn
  have h0' : ((f : Int) != 0) = false := by have := HZ.out; simp [this]
  have h1 := HST.out
  have HSL := Lib.hid (show Sl w2 (Pl.D ⟨b, tt, pre, post, off, gm, gs, fx⟩ w2) 1 (.slice As (M.stk f).length cs) (M.stk f).length (intCells (M.stk f)) from ⟨As, cs, rfl, hcs, HAs.out, HRs.out⟩)
  obtain ⟨i9, li, lz, ls, lb⟩ := info_parts info_intP
  go_upto_region 56 with fail
  refine wp_region_heldL (S := fun W => Below w2.heap.size w2 W) 24 (by kernel_rfl) ((Below.refl _ _).drew) (fun hH => ?_)
  refine wpAnyL_at ?_
  intro wa hwa
  have hX : Below w2.heap.size w2 wa := by rw [hwa]; exact (Below.refl _ _).drew
  replace hH := hX
  clear hwa
  refine tkL 0 (v := ?_) rfl (by kernel_rfl) (fun _ _ _ h => h) (by rfl) ?hy hH ?_
  case hy => (intro w9_ hS9; clear hS9; go_simp; try with_reducible rfl)
  (try simp only [Bk.PU, Act.put])
  refine tkL 1 (v := ?_) rfl (by kernel_rfl) (fun _ _ _ h => h) (by rfl) ?hy hH ?_
  case hy => (intro w9_ hS9; clear hS9; go_simp; try with_reducible rfl)
  (try simp only [Bk.PU, Act.put])
  refine tkL 2 (v := ?_) rfl (by kernel_rfl) (fun _ _ _ h => h) (by rfl) ?hy hH ?_
  case hy => (intro w9_ hS9; clear hS9; go_simp; try with_reducible rfl)
  (try simp only [Bk.PU, Act.put])
  refine tkL 3 (v := ?_) rfl (by kernel_rfl) (fun _ _ _ h => h) (by rfl) ?hy hH ?_
  case hy => (intro w9_ hS9; have t := (hS9.cell (p := ⟨b, off + 19, none⟩) hblt).trans e19; clear hS9; go_simp; try with_reducible rfl)
  (try simp only [Bk.PU, Act.put])
  refine tkL 4 (v := ?_) rfl (by kernel_rfl) (fun _ _ _ h => h) (by rfl) ?hy hH ?_
  case hy => (intro w9_ hS9; clear hS9; go_simp; try with_reducible rfl)
  (try simp only [Bk.PU, Act.put])
  refine tkL 6 (v := ?_) rfl (by kernel_rfl) (fun _ _ _ h => h) (by rfl) ?hy hH ?_
  case hy => (intro w9_ hS9; clear hS9; go_simp; try with_reducible rfl)
  (try simp only [Bk.PU, Act.put])
  refine tkL 7 (v := ?_) rfl (by kernel_rfl) (fun _ _ _ h => h) (by rfl) ?hy hH ?_
  case hy => (intro w9_ hS9; clear hS9; go_simp; try with_reducible rfl)
  (try simp only [Bk.PU, Act.put])
  refine tkL 8 (v := ?_) rfl (by kernel_rfl) (fun _ _ _ h => h) (by rfl) ?hy hH ?_
  case hy => (intro w9_ hS9; clear hS9; go_simp; try with_reducible rfl)
  (try simp only [Bk.PU, Act.put])
  refine tkL 9 (v := ?_) rfl (by kernel_rfl) (fun _ _ _ h => h) (by rfl) ?hy hH ?_
  case hy => (intro w9_ hS9; have t := (hS9.cell (p := ⟨b, off + 19, none⟩) hblt).trans e19; clear hS9; go_simp; try with_reducible rfl)
  (try simp only [Bk.PU, Act.put])
  refine tkL 10 (v := ?_) rfl (by kernel_rfl) (fun _ _ _ h => h) (by rfl) ?hy hH ?_
  case hy => (intro w9_ hS9; clear hS9; go_simp; try with_reducible rfl)
  (try simp only [Bk.PU, Act.put])
  refine tkL 11 (v := ?_) rfl (by kernel_rfl) (fun _ _ _ h => h) (by rfl) ?hy hH ?_
  case hy => (intro w9_ hS9; clear hS9; go_simp; try with_reducible rfl)
  (try simp only [Bk.PU, Act.put])
  refine tkL 12 (v := ?_) rfl (by kernel_rfl) (fun _ _ _ h => h) (by rfl) ?hy hH ?_
  case hy => (intro w9_ hS9; have t := (hS9.cell (p := ⟨gs, f, none⟩) hglt).trans es; clear hS9; go_simp; try with_reducible rfl)
  (try simp only [Bk.PU, Act.put])
  refine tkL 14 (v := ?_) rfl (by kernel_rfl) (fun _ _ _ h => h) (by rfl) ?hy hH ?_
  case hy => (intro w9_ hS9; clear hS9; go_simp; try with_reducible rfl)
  (try simp only [Bk.PU, Act.put])
  refine tkL 15 (v := ?_) rfl (by kernel_rfl) (fun _ _ _ h => h) (by rfl) ?hy hH ?_
  case hy => (intro w9_ hS9; clear hS9; go_simp; try with_reducible rfl)
  (try simp only [Bk.PU, Act.put])
  refine tkL 16 (v := ?_) rfl (by kernel_rfl) (fun _ _ _ h => h) (by rfl) ?hy hH ?_
  case hy => (intro w9_ hS9; have t := (HKI2.out.next hS9).cell; clear hS9; go_simp; try with_reducible rfl)
  (try simp only [Bk.PU, Act.put])
  refine tkL 17 (v := ?_) rfl (by kernel_rfl) (fun _ _ _ h => h) (by rfl) ?hy hH ?_
  case hy => (intro w9_ hS9; clear hS9; go_simp; try with_reducible rfl)
  (try simp only [Bk.PU, Act.put])
  refine tkL 18 (v := ?_) rfl (by kernel_rfl) (fun _ _ _ h => h) (by rfl) ?hy hH ?_
  case hy => (intro w9_ hS9; clear hS9; go_simp; try with_reducible rfl)
  (try simp only [Bk.PU, Act.put])
  refine tkL 19 (v := ?_) rfl (by kernel_rfl) (fun _ _ _ h => h) (by rfl) ?hy hH ?_
  case hy => (intro w9_ hS9; clear hS9; go_simp; try with_reducible rfl)
  (try simp only [Bk.PU, Act.put])
  refine tkL 20 (v := ?_) rfl (by kernel_rfl) (fun _ _ _ h => h) (by rfl) ?hy hH ?_
  case hy => (intro w9_ hS9; have t := (hS9.cell (p := ⟨b, off + 2 + a, none⟩) hblt).trans er; clear hS9; go_simp; try with_reducible rfl)
  (try simp only [Bk.PU, Act.put])
  refine wpAnyL_ready (rs := [5, 21]) (by kernel_rfl) (by simp) ?_
  refine AllReadyL.cons rfl (fun K hK => ?_) (AllReadyL.cons rfl (fun K hK => ?_) (AllReadyL.nil))
  · go_simp
    replace hH : Below w2.heap.size w2 _ := hX.alloc (by have := hX.size; omega) (.cells #[] 3)
    refine hK.out _ _ hH (fun _ => ?_)
    clear hK
    (try simp only [Bk.PU, Act.put])
    refine wpAnyL_at ?_
    intro wb hwn
    have hbn : Below wa.heap.size wa wb := by rw [hwn]; exact (Below.refl _ _).alloc (Nat.le_refl _) _
    have K_5 : Blk wb wa.heap.size 3 #[] := by rw [hwn]; exact Blk.new _ _ _
    have zn_5 : wb.heap.size = wa.heap.size + 1 := by rw [hwn]; simp
    have hz_5 : w2.heap.size ≤ wa.heap.size := hX.size
    replace hX := hX.next hbn
    replace hH := hX
    clear hwn hbn
    refine wpAnyL_ready (rs := [13, 21]) (by kernel_rfl) (by simp) ?_
    refine AllReadyL.cons rfl (fun K hK => ?_) (AllReadyL.cons rfl (fun K hK => ?_) (AllReadyL.nil))
    · rw [if_pos (by rfl)]
      refine wp_appS (.tmp 388) (.tmp 395) 26 rfl w2.heap.size 3 i9 _ 1 8 Tryd.underlying26 li lz ls lb rfl (by decide) (.slice (some ⟨wa.heap.size, 0, none⟩) 0 0) 0 [] (by simp [Act.eval]) (own_blk0 K_5 hz_5) (by simp [Act.eval]) (HSL.out.upD (fun k hk => hk.1) hX) (oneInt _) (by unfold maxLen; have := HST.out; omega) (by have := HST.out; omega) hX.size ?_
      intro v1 wc hown1 hgr1 hat1
      replace hX := hX.grown hgr1 hX.size (fun k hk => by simp [Value.ownBlock] at hk; omega)
      replace hH := hX
      obtain ⟨A1, c1, rfl⟩ := own_form hown1
      have HO1 := Lib.hid hown1
      clear hown1 hgr1 hat1 K_5
      refine hK.out _ _ hH (fun _ => ?_)
      clear hK
      (try simp only [Bk.PU, Act.put])
      refine wpAnyL_next (i := 21) rfl (by kernel_rfl) (fun K hK => ?_)
      go_simp
      replace hH : Below w2.heap.size w2 _ := hX.alloc (by have := hX.size; omega) (.cells #[.int .i64 (M.reg a)] 3)
      refine hK.out _ _ hH (fun _ => ?_)
      clear hK
      (try simp only [Bk.PU, Act.put])
      refine wpAnyL_at ?_
      intro wd hwn
      have hbn : Below wc.heap.size wc wd := by rw [hwn]; exact (Below.refl _ _).alloc (Nat.le_refl _) _
      have K_21 : Blk wd wc.heap.size 3 #[.int .i64 (M.reg a)] := by rw [hwn]; exact Blk.new _ _ _
      have zn_21 : wd.heap.size = wc.heap.size + 1 := by rw [hwn]; simp
      have hz_21 : w2.heap.size ≤ wc.heap.size := hX.size
      replace HO1 := Lib.hid (own_below HO1.out hbn (Nat.le_refl _))
      replace hX := hX.next hbn
      replace hH := hX
      clear hwn hbn
      refine wpAnyL_next (i := 22) rfl (by kernel_rfl) (fun K hK => ?_)
      rw [if_pos (by rfl)]
      refine wp_appS (.tmp 396) (.tmp 404) 26 rfl w2.heap.size 3 i9 _ 1 8 Tryd.underlying26 li lz ls lb rfl (by decide) (.slice A1 (0 + (M.stk f).length) c1) (0 + (M.stk f).length) ([] ++ intCells (M.stk f)) (by simp [Act.eval]) HO1.out (by simp [Act.eval]) (sl_blk1 K_21) (by intro u hu; simp at hu; subst hu; rfl) (by unfold maxLen; have := HST.out; omega) (by have := HST.out; omega) hX.size ?_
      intro v2 we hown2 hgr2 hat2
      simp only [Nat.zero_add] at hown2
      replace hX := hX.grown hgr2 hX.size (fun k hk => own_block_ge HO1.out hk)
      replace hH := hX
      have HS2 := Lib.hid (show Sl we (fun k => w2.heap.size ≤ k ∧ k < we.heap.size) 1 v2 (M.stk f ++ [M.reg a]).length (intCells (M.stk f ++ [M.reg a])) from by have h2 := Sl.of_own hown2; rw [intCells_append, List.length_append]; simpa [intCells] using h2)
      obtain ⟨A2, c2, rfl⟩ := own_form hown2
      have E2 : we.cell? ⟨gs, f, none⟩ = some (.slice As (M.stk f).length cs) := (hX.cell (p := ⟨gs, f, none⟩) hglt).trans es
      have F2 : we.frozen? ⟨gs, f, none⟩ = false := ((bcell hX).2 gs f hglt).trans zs
      clear hown2 hgr2 hat2 K_21 HO1
      refine hK.out _ _ hH (fun _ => ?_)
      clear hK
      (try simp only [Bk.PU, Act.put])
      refine tkL 23 (v := ?_) rfl (by kernel_rfl) (fun _ _ _ h => h) (by rfl) ?hy hH ?_
      case hy => (intro w9_ hS9; clear hS9; go_simp; try with_reducible rfl)
      (try simp only [Bk.PU, Act.put])
      refine wpAnyL_last (l := 24) rfl (by kernel_rfl) (by kernel_rfl) (fun K hK => ?_)
      go_simp
      refine hK.out _ _ ?_
      clear hK
      (try simp only [Bk.PU, Act.put])
      go_wp2_with fail
      refine wp_nameY ?_
      intro wq hwq
      have HQ : Hid (MOn wq ⟨b, tt, pre, post, off, gm, gs, fx⟩ (M.setS f (M.stk f ++ [M.reg a])) _ _ _ _ _ _) := Lib.hid (by rw [hwq]; exact (H2.out.next hX).setStk f HL.out _ (M.stk f ++ [M.reg a]) (HS2.out.mono fun k hk => H2.out.fresh hk.1 hk.2))
      have KQ : Blk wq w.heap.size 42 #[.int .u8 (12), .int .i64 (a), .int .i64 (i), .int .i64 (c), .int .i64 (d)] := by rw [hwq]; exact (Below.heap_setCell _ ⟨gs, f, none⟩ _ _ hgI').trans (HKI2.out.next hX)
      have HFQ : Hid (Fr (Pl.O ⟨b, tt, pre, post, off, gm, gs, fx⟩) w wq) := Lib.hid (by rw [hwq]; exact (Fr.of (hBw2.next hX)).set (.inr (.inr rfl)) _)
      have erq : wq.cell? ⟨b, off + 2 + a, none⟩ = some (.int .i64 (M.reg a)) := HQ.out.cr a ha
      have zrq : wq.frozen? ⟨b, off + 2 + a, none⟩ = false := HQ.out.frozen (off + 2 + a)
      obtain ⟨zIq, TIq, FIq⟩ := KQ.open_
      clear hwq KQ er zr zI TI FI e19 es zs hX hH E2 F2 HS2
      go_region
      go_wp2_with fail
      go_ret
      exact ⟨rfl, (HQ.out.setReg a ha 0).matE rfl, by have HF := HFQ.out; repeat' (first | with_reducible (first | assumption | apply Fr.refl | apply Fr.drew | apply Fr.drewN | apply Fr.alloc | apply Fr.set) | exact .inl rfl | exact .inr (.inl rfl) | exact .inr (.inr rfl) | (apply Fr.of; assumption))⟩
    · go_simp
      replace hH : Below w2.heap.size w2 _ := hX.alloc (by have := hX.size; omega) (.cells #[.int .i64 (M.reg a)] 3)
      refine hK.out _ _ hH (fun _ => ?_)
      clear hK
      (try simp only [Bk.PU, Act.put])
      refine wpAnyL_at ?_
      intro wc hwn
      have hbn : Below wb.heap.size wb wc := by rw [hwn]; exact (Below.refl _ _).alloc (Nat.le_refl _) _
      have K_21 : Blk wc wb.heap.size 3 #[.int .i64 (M.reg a)] := by rw [hwn]; exact Blk.new _ _ _
      have zn_21 : wc.heap.size = wb.heap.size + 1 := by rw [hwn]; simp
      have hz_21 : w2.heap.size ≤ wb.heap.size := hX.size
      replace K_5 := K_5.next hbn
      replace hX := hX.next hbn
      replace hH := hX
      clear hwn hbn
      refine wpAnyL_next (i := 13) rfl (by kernel_rfl) (fun K hK => ?_)
      rw [if_pos (by rfl)]
      refine wp_appS (.tmp 388) (.tmp 395) 26 rfl w2.heap.size 3 i9 _ 1 8 Tryd.underlying26 li lz ls lb rfl (by decide) (.slice (some ⟨wa.heap.size, 0, none⟩) 0 0) 0 [] (by simp [Act.eval]) (own_blk0 K_5 hz_5) (by simp [Act.eval]) (HSL.out.upD (fun k hk => hk.1) hX) (oneInt _) (by unfold maxLen; have := HST.out; omega) (by have := HST.out; omega) hX.size ?_
      intro v1 wd hown1 hgr1 hat1
      replace K_21 : Blk wd wb.heap.size 3 #[.int .i64 (M.reg a)] := (hgr1.block _ K_21.lt (fun e => by simp [Value.ownBlock] at e; omega)).trans K_21
      replace hX := hX.grown hgr1 hX.size (fun k hk => by simp [Value.ownBlock] at hk; omega)
      replace hH := hX
      obtain ⟨A1, c1, rfl⟩ := own_form hown1
      have HO1 := Lib.hid hown1
      clear hown1 hgr1 hat1 K_5
      refine hK.out _ _ hH (fun _ => ?_)
      clear hK
      (try simp only [Bk.PU, Act.put])
      refine wpAnyL_next (i := 22) rfl (by kernel_rfl) (fun K hK => ?_)
      rw [if_pos (by rfl)]
      refine wp_appS (.tmp 396) (.tmp 404) 26 rfl w2.heap.size 3 i9 _ 1 8 Tryd.underlying26 li lz ls lb rfl (by decide) (.slice A1 (0 + (M.stk f).length) c1) (0 + (M.stk f).length) ([] ++ intCells (M.stk f)) (by simp [Act.eval]) HO1.out (by simp [Act.eval]) (sl_blk1 K_21) (by intro u hu; simp at hu; subst hu; rfl) (by unfold maxLen; have := HST.out; omega) (by have := HST.out; omega) hX.size ?_
      intro v2 we hown2 hgr2 hat2
      simp only [Nat.zero_add] at hown2
      replace hX := hX.grown hgr2 hX.size (fun k hk => own_block_ge HO1.out hk)
      replace hH := hX
      have HS2 := Lib.hid (show Sl we (fun k => w2.heap.size ≤ k ∧ k < we.heap.size) 1 v2 (M.stk f ++ [M.reg a]).length (intCells (M.stk f ++ [M.reg a])) from by have h2 := Sl.of_own hown2; rw [intCells_append, List.length_append]; simpa [intCells] using h2)
      obtain ⟨A2, c2, rfl⟩ := own_form hown2
      have E2 : we.cell? ⟨gs, f, none⟩ = some (.slice As (M.stk f).length cs) := (hX.cell (p := ⟨gs, f, none⟩) hglt).trans es
      have F2 : we.frozen? ⟨gs, f, none⟩ = false := ((bcell hX).2 gs f hglt).trans zs
      clear hown2 hgr2 hat2 K_21 HO1
      refine hK.out _ _ hH (fun _ => ?_)
      clear hK
      (try simp only [Bk.PU, Act.put])
      refine tkL 23 (v := ?_) rfl (by kernel_rfl) (fun _ _ _ h => h) (by rfl) ?hy hH ?_
      case hy => (intro w9_ hS9; clear hS9; go_simp; try with_reducible rfl)
      (try simp only [Bk.PU, Act.put])
      refine wpAnyL_last (l := 24) rfl (by kernel_rfl) (by kernel_rfl) (fun K hK => ?_)
      go_simp
      refine hK.out _ _ ?_
      clear hK
      (try simp only [Bk.PU, Act.put])
      go_wp2_with fail
      refine wp_nameY ?_
      intro wq hwq
      have HQ : Hid (MOn wq ⟨b, tt, pre, post, off, gm, gs, fx⟩ (M.setS f (M.stk f ++ [M.reg a])) _ _ _ _ _ _) := Lib.hid (by rw [hwq]; exact (H2.out.next hX).setStk f HL.out _ (M.stk f ++ [M.reg a]) (HS2.out.mono fun k hk => H2.out.fresh hk.1 hk.2))
      have KQ : Blk wq w.heap.size 42 #[.int .u8 (12), .int .i64 (a), .int .i64 (i), .int .i64 (c), .int .i64 (d)] := by rw [hwq]; exact (Below.heap_setCell _ ⟨gs, f, none⟩ _ _ hgI').trans (HKI2.out.next hX)
      have HFQ : Hid (Fr (Pl.O ⟨b, tt, pre, post, off, gm, gs, fx⟩) w wq) := Lib.hid (by rw [hwq]; exact (Fr.of (hBw2.next hX)).set (.inr (.inr rfl)) _)
      have erq : wq.cell? ⟨b, off + 2 + a, none⟩ = some (.int .i64 (M.reg a)) := HQ.out.cr a ha
      have zrq : wq.frozen? ⟨b, off + 2 + a, none⟩ = false := HQ.out.frozen (off + 2 + a)
      obtain ⟨zIq, TIq, FIq⟩ := KQ.open_
      clear hwq KQ er zr zI TI FI e19 es zs hX hH E2 F2 HS2
      go_region
      go_wp2_with fail
      go_ret
      exact ⟨rfl, (HQ.out.setReg a ha 0).matE rfl, by have HF := HFQ.out; repeat' (first | with_reducible (first | assumption | apply Fr.refl | apply Fr.drew | apply Fr.drewN | apply Fr.alloc | apply Fr.set) | exact .inl rfl | exact .inr (.inl rfl) | exact .inr (.inr rfl) | (apply Fr.of; assumption))⟩
  · go_simp
    replace hH : Below w2.heap.size w2 _ := hX.alloc (by have := hX.size; omega) (.cells #[.int .i64 (M.reg a)] 3)
    refine hK.out _ _ hH (fun _ => ?_)
    clear hK
    (try simp only [Bk.PU, Act.put])
    refine wpAnyL_at ?_
    intro wb hwn
    have hbn : Below wa.heap.size wa wb := by rw [hwn]; exact (Below.refl _ _).alloc (Nat.le_refl _) _
    have K_21 : Blk wb wa.heap.size 3 #[.int .i64 (M.reg a)] := by rw [hwn]; exact Blk.new _ _ _
    have zn_21 : wb.heap.size = wa.heap.size + 1 := by rw [hwn]; simp
    have hz_21 : w2.heap.size ≤ wa.heap.size := hX.size
    replace hX := hX.next hbn
    replace hH := hX
    clear hwn hbn
    refine wpAnyL_next (i := 5) rfl (by kernel_rfl) (fun K hK => ?_)
    go_simp
    replace hH : Below w2.heap.size w2 _ := hX.alloc (by have := hX.size; omega) (.cells #[] 3)
    refine hK.out _ _ hH (fun _ => ?_)
    clear hK
    (try simp only [Bk.PU, Act.put])
    refine wpAnyL_at ?_
    intro wc hwn
    have hbn : Below wb.heap.size wb wc := by rw [hwn]; exact (Below.refl _ _).alloc (Nat.le_refl _) _
    have K_5 : Blk wc wb.heap.size 3 #[] := by rw [hwn]; exact Blk.new _ _ _
    have zn_5 : wc.heap.size = wb.heap.size + 1 := by rw [hwn]; simp
    have hz_5 : w2.heap.size ≤ wb.heap.size := hX.size
    replace K_21 := K_21.next hbn
    replace hX := hX.next hbn
    replace hH := hX
    clear hwn hbn
    refine wpAnyL_next (i := 13) rfl (by kernel_rfl) (fun K hK => ?_)
    rw [if_pos (by rfl)]
    refine wp_appS (.tmp 388) (.tmp 395) 26 rfl w2.heap.size 3 i9 _ 1 8 Tryd.underlying26 li lz ls lb rfl (by decide) (.slice (some ⟨wb.heap.size, 0, none⟩) 0 0) 0 [] (by simp [Act.eval]) (own_blk0 K_5 hz_5) (by simp [Act.eval]) (HSL.out.upD (fun k hk => hk.1) hX) (oneInt _) (by unfold maxLen; have := HST.out; omega) (by have := HST.out; omega) hX.size ?_
    intro v1 wd hown1 hgr1 hat1
    replace K_21 : Blk wd wa.heap.size 3 #[.int .i64 (M.reg a)] := (hgr1.block _ K_21.lt (fun e => by simp [Value.ownBlock] at e; omega)).trans K_21
    replace hX := hX.grown hgr1 hX.size (fun k hk => by simp [Value.ownBlock] at hk; omega)
    replace hH := hX
    obtain ⟨A1, c1, rfl⟩ := own_form hown1
    have HO1 := Lib.hid hown1
    clear hown1 hgr1 hat1 K_5
    refine hK.out _ _ hH (fun _ => ?_)
    clear hK
    (try simp only [Bk.PU, Act.put])
    refine wpAnyL_next (i := 22) rfl (by kernel_rfl) (fun K hK => ?_)
    rw [if_pos (by rfl)]
    refine wp_appS (.tmp 396) (.tmp 404) 26 rfl w2.heap.size 3 i9 _ 1 8 Tryd.underlying26 li lz ls lb rfl (by decide) (.slice A1 (0 + (M.stk f).length) c1) (0 + (M.stk f).length) ([] ++ intCells (M.stk f)) (by simp [Act.eval]) HO1.out (by simp [Act.eval]) (sl_blk1 K_21) (by intro u hu; simp at hu; subst hu; rfl) (by unfold maxLen; have := HST.out; omega) (by have := HST.out; omega) hX.size ?_
    intro v2 we hown2 hgr2 hat2
    simp only [Nat.zero_add] at hown2
    replace hX := hX.grown hgr2 hX.size (fun k hk => own_block_ge HO1.out hk)
    replace hH := hX
    have HS2 := Lib.hid (show Sl we (fun k => w2.heap.size ≤ k ∧ k < we.heap.size) 1 v2 (M.stk f ++ [M.reg a]).length (intCells (M.stk f ++ [M.reg a])) from by have h2 := Sl.of_own hown2; rw [intCells_append, List.length_append]; simpa [intCells] using h2)
    obtain ⟨A2, c2, rfl⟩ := own_form hown2
    have E2 : we.cell? ⟨gs, f, none⟩ = some (.slice As (M.stk f).length cs) := (hX.cell (p := ⟨gs, f, none⟩) hglt).trans es
    have F2 : we.frozen? ⟨gs, f, none⟩ = false := ((bcell hX).2 gs f hglt).trans zs
    clear hown2 hgr2 hat2 K_21 HO1
    refine hK.out _ _ hH (fun _ => ?_)
    clear hK
    (try simp only [Bk.PU, Act.put])
    refine tkL 23 (v := ?_) rfl (by kernel_rfl) (fun _ _ _ h => h) (by rfl) ?hy hH ?_
    case hy => (intro w9_ hS9; clear hS9; go_simp; try with_reducible rfl)
    (try simp only [Bk.PU, Act.put])
    refine wpAnyL_last (l := 24) rfl (by kernel_rfl) (by kernel_rfl) (fun K hK => ?_)
    go_simp
    refine hK.out _ _ ?_
    clear hK
    (try simp only [Bk.PU, Act.put])
    go_wp2_with fail
    refine wp_nameY ?_
    intro wq hwq
    have HQ : Hid (MOn wq ⟨b, tt, pre, post, off, gm, gs, fx⟩ (M.setS f (M.stk f ++ [M.reg a])) _ _ _ _ _ _) := Lib.hid (by rw [hwq]; exact (H2.out.next hX).setStk f HL.out _ (M.stk f ++ [M.reg a]) (HS2.out.mono fun k hk => H2.out.fresh hk.1 hk.2))
    have KQ : Blk wq w.heap.size 42 #[.int .u8 (12), .int .i64 (a), .int .i64 (i), .int .i64 (c), .int .i64 (d)] := by rw [hwq]; exact (Below.heap_setCell _ ⟨gs, f, none⟩ _ _ hgI').trans (HKI2.out.next hX)
    have HFQ : Hid (Fr (Pl.O ⟨b, tt, pre, post, off, gm, gs, fx⟩) w wq) := Lib.hid (by rw [hwq]; exact (Fr.of (hBw2.next hX)).set (.inr (.inr rfl)) _)
    have erq : wq.cell? ⟨b, off + 2 + a, none⟩ = some (.int .i64 (M.reg a)) := HQ.out.cr a ha
    have zrq : wq.frozen? ⟨b, off + 2 + a, none⟩ = false := HQ.out.frozen (off + 2 + a)
    obtain ⟨zIq, TIq, FIq⟩ := KQ.open_
    clear hwq KQ er zr zI TI FI e19 es zs hX hH E2 F2 HS2
    go_region
    go_wp2_with fail
    go_ret
    exact ⟨rfl, (HQ.out.setReg a ha 0).matE rfl, by have HF := HFQ.out; repeat' (first | with_reducible (first | assumption | apply Fr.refl | apply Fr.drew | apply Fr.drewN | apply Fr.alloc | apply Fr.set) | exact .inl rfl | exact .inr (.inl rfl) | exact .inr (.inr rfl) | (apply Fr.of; assumption))⟩
theorem rs_12b (h : MOn w P M vm vs vc vi vo sv) (hB : MBd M) (a f : Nat) (ha : a < 16) (i c d : Int) (i0 : 0 ≤ i) (i1 : i ≤ 16384) (hf : find M i = f) (hk : f < M.s.length) (hz : f ≠ 0) (hr : (M.stk f).length < 1000) :
    SC w P (12) ((a : Nat)) (i) (c) (d) ((0, (M.setS f (M.stk f ++ [M.reg a])).setR a 0)) := by
  unfold SC
  have HZ := Lib.hid hz; have HR := Lib.hid hr; clear hz hr
  have HB := Lib.hid hB; have HF := Lib.hid hf; have HL := Lib.hid hk
  have hst := hB.stk f; have HST := Lib.hid hst
  have hgm0 := h.gm; have hgs0 := h.gs
  obtain ⟨w1, hw1, h1, hbw, KI, hlt, hlt0, hne0, hne⟩ := h.al 42 #[.int .u8 (12), .int .i64 ((a : Nat)), .int .i64 (i), .int .i64 (c), .int .i64 (d)]; have H1 := Lib.hid h1; obtain ⟨er_a, zr_a, i0_a, i1_a⟩ := h1.rg a ha; have HKI := Lib.hid KI; obtain ⟨zI, TI, FI⟩ := KI.open_; obtain ⟨b, tt, pre, post, off, gm, gs, fx⟩ := P; dsimp only at *; clear h h1 KI hB hf hk hst
  go_enter Tryd.func35, Tryd.ntmps35
  go_wp2_with fail
  rw [← hw1]
  clear hw1
  refine wp_region_held_drew (S := fun W => Below w1.heap.size w1 W) (by kernel_rfl) ((Below.refl _ _).drew) (fun hH => ?_)
  refine tkH 0 (v := ?_) rfl (by kernel_rfl) (fun _ _ _ h => h) (by rfl) ?hy hH ?_
  case hy => (intro w9_ hS9; clear hS9; go_simp; try with_reducible rfl)
  (try simp only [Bk.PU, Act.put])
  refine tkH 1 (v := ?_) rfl (by kernel_rfl) (fun _ _ _ h => h) (by rfl) ?hy hH ?_
  case hy => (intro w9_ hS9; clear hS9; go_simp; try with_reducible rfl)
  (try simp only [Bk.PU, Act.put])
  refine wpAnyH_take (i := 2) (v := _) rfl (by kernel_rfl) (by kernel_rfl) (by kernel_rfl) (fun _ _ _ h => h) (Or.inl ⟨by rfl, yields_load 30 (x := .tmp 341) rfl rfl (fun W hW => load_mach (H1.out.next hW).rd)⟩) hH ?_
  (try simp only [Bk.PU, Act.put])
  refine tkH 3 (v := ?_) rfl (by kernel_rfl) (fun _ _ _ h => h) (by rfl) ?hy hH ?_
  case hy => (intro w9_ hS9; clear hS9; go_simp; try with_reducible rfl)
  (try simp only [Bk.PU, Act.put])
  refine tkH 4 (v := ?_) rfl (by kernel_rfl) (fun _ _ _ h => h) (by rfl) ?hy hH ?_
  case hy => (intro w9_ hS9; have T9 := (HKI.out.next hS9).cell; clear hS9; go_simp; try with_reducible rfl)
  (try simp only [Bk.PU, Act.put])
  refine wpAnyH_ready (rs := [5]) (by kernel_rfl) (by simp) ?_
  refine AllReadyH.cons rfl (fun K hK => ?_) (AllReadyH.nil)
  go_simp
  refine (c_rstackIn (H1.out.next hH).rd.mls i i0 i1 HB.out.s0 HB.out.s1 f HF.out HL.out).mono ?_
  rintro e w2 ⟨rfl, hb2⟩
  replace hH := hH.next hb2
  clear hb2
  refine hK.out _ _ hH (fun _ => ?_)
  clear hK
  (try simp only [Bk.PU, Act.put])
  refine tkH 6 (v := ?_) rfl (by kernel_rfl) (fun _ _ _ h => h) (by rfl) ?hy hH ?_
  case hy => (intro w9_ hS9; clear hS9; go_simp; try with_reducible rfl)
  (try simp only [Bk.PU, Act.put])
  refine wpAnyH_done (by kernel_rfl) ?_ _
  have hB2 : Below w1.heap.size w1 w2 := hH
  have H2 := Lib.hid (H1.out.next hB2)
  have hBw2 : Below w.heap.size w w2 := hbw.next hB2
  have KI2 : Blk w2 w.heap.size 42 #[.int .u8 (12), .int .i64 (a), .int .i64 (i), .int .i64 (c), .int .i64 (d)] := HKI.out.next hB2
  have HKI2 := Lib.hid KI2
  clear er_a zr_a zI TI FI
  obtain ⟨n, cap, rfl, hn, As, cs, es, hcs, hAs, hRs, ssv⟩ := H2.out.sv f HL.out
  have e19 := H2.out.c19
  have er : w2.cell? ⟨b, off + 2 + a, none⟩ = some (.int .i64 (M.reg a)) := H2.out.cr a ha
  have zr := H2.out.frozen (off + 2 + a)
  have zs := (let ⟨_, _, _, _, z⟩ := H2.out.s.form (by rw [H2.out.l.1.1]; have := HL.out; omega); z f)
  obtain ⟨zI, TI, FI⟩ := KI2.open_
  dsimp only at *
  have i5 : (0 : Int) ≤ (f : Int) := by omega
  have i2 : (f : Int) < (n : Int) := by have := HL.out; omega
  have i3 : (0 : Int) ≤ (a : Int) := by omega
  have i4 : (a : Int) < 16 := by omega
  have i6 : ¬ (f : Int) < 0 := by omega
  have hblt := H2.out.lt
  have hglt := H2.out.gs
  have hgs : gs ≠ b := (H2.out.as_ (by have := HL.out; omega))
  dsimp only at hblt hglt
  have hgs' : b ≠ gs := Ne.symm hgs
  have hgI : gs ≠ w.heap.size := by omega
  have hgI' : w.heap.size ≠ gs := Ne.symm hgI
  have HRs := Lib.hid hRs; have HAs := Lib.hid hAs; have HN := Lib.hid hn; have HCS := Lib.hid hcs
  clear KI2 hRs hAs ssv hn
  have h0' : ((f : Int) != 0) = true := by have := HZ.out; simpa using this
  have h0'' : decide (1000 ≤ ((M.stk f).length : Int)) = false := by have := HR.out; simp; omega
  have h1 := HST.out
  have HSL := Lib.hid (show Sl w2 (Pl.D ⟨b, tt, pre, post, off, gm, gs, fx⟩ w2) 1 (.slice As (M.stk f).length cs) (M.stk f).length (intCells (M.stk f)) from ⟨As, cs, rfl, hcs, HAs.out, HRs.out⟩)
  obtain ⟨i9, li, lz, ls, lb⟩ := info_parts info_intP
  go_upto_region 56 with fail
  refine wp_region_heldL (S := fun W => Below w2.heap.size w2 W) 24 (by kernel_rfl) ((Below.refl _ _).drew) (fun hH => ?_)
  refine wpAnyL_at ?_
  intro wa hwa
  have hX : Below w2.heap.size w2 wa := by rw [hwa]; exact (Below.refl _ _).drew
  replace hH := hX
  clear hwa
  refine tkL 0 (v := ?_) rfl (by kernel_rfl) (fun _ _ _ h => h) (by rfl) ?hy hH ?_
  case hy => (intro w9_ hS9; clear hS9; go_simp; try with_reducible rfl)
  (try simp only [Bk.PU, Act.put])
  refine tkL 1 (v := ?_) rfl (by kernel_rfl) (fun _ _ _ h => h) (by rfl) ?hy hH ?_
  case hy => (intro w9_ hS9; clear hS9; go_simp; try with_reducible rfl)
  (try simp only [Bk.PU, Act.put])
  refine tkL 2 (v := ?_) rfl (by kernel_rfl) (fun _ _ _ h => h) (by rfl) ?hy hH ?_
  case hy => (intro w9_ hS9; clear hS9; go_simp; try with_reducible rfl)
  (try simp only [Bk.PU, Act.put])
  refine tkL 3 (v := ?_) rfl (by kernel_rfl) (fun _ _ _ h => h) (by rfl) ?hy hH ?_
  case hy => (intro w9_ hS9; have t := (hS9.cell (p := ⟨b, off + 19, none⟩) hblt).trans e19; clear hS9; go_simp; try with_reducible rfl)
  (try simp only [Bk.PU, Act.put])
  refine tkL 4 (v := ?_) rfl (by kernel_rfl) (fun _ _ _ h => h) (by rfl) ?hy hH ?_
  case hy => (intro w9_ hS9; clear hS9; go_simp; try with_reducible rfl)
  (try simp only [Bk.PU, Act.put])
  refine tkL 6 (v := ?_) rfl (by kernel_rfl) (fun _ _ _ h => h) (by rfl) ?hy hH ?_
  case hy => (intro w9_ hS9; clear hS9; go_simp; try with_reducible rfl)
  (try simp only [Bk.PU, Act.put])
  refine tkL 7 (v := ?_) rfl (by kernel_rfl) (fun _ _ _ h => h) (by rfl) ?hy hH ?_
  case hy => (intro w9_ hS9; clear hS9; go_simp; try with_reducible rfl)
  (try simp only [Bk.PU, Act.put])
  refine tkL 8 (v := ?_) rfl (by kernel_rfl) (fun _ _ _ h => h) (by rfl) ?hy hH ?_
  case hy => (intro w9_ hS9; clear hS9; go_simp; try with_reducible rfl)
  (try simp only [Bk.PU, Act.put])
  refine tkL 9 (v := ?_) rfl (by kernel_rfl) (fun _ _ _ h => h) (by rfl) ?hy hH ?_
  case hy => (intro w9_ hS9; have t := (hS9.cell (p := ⟨b, off + 19, none⟩) hblt).trans e19; clear hS9; go_simp; try with_reducible rfl)
  (try simp only [Bk.PU, Act.put])
  refine tkL 10 (v := ?_) rfl (by kernel_rfl) (fun _ _ _ h => h) (by rfl) ?hy hH ?_
  case hy => (intro w9_ hS9; clear hS9; go_simp; try with_reducible rfl)
  (try simp only [Bk.PU, Act.put])
  refine tkL 11 (v := ?_) rfl (by kernel_rfl) (fun _ _ _ h => h) (by rfl) ?hy hH ?_
  case hy => (intro w9_ hS9; clear hS9; go_simp; try with_reducible rfl)
  (try simp only [Bk.PU, Act.put])
  refine tkL 12 (v := ?_) rfl (by kernel_rfl) (fun _ _ _ h => h) (by rfl) ?hy hH ?_
  case hy => (intro w9_ hS9; have t := (hS9.cell (p := ⟨gs, f, none⟩) hglt).trans es; clear hS9; go_simp; try with_reducible rfl)
  (try simp only [Bk.PU, Act.put])
  refine tkL 14 (v := ?_) rfl (by kernel_rfl) (fun _ _ _ h => h) (by rfl) ?hy hH ?_
  case hy => (intro w9_ hS9; clear hS9; go_simp; try with_reducible rfl)
  (try simp only [Bk.PU, Act.put])
  refine tkL 15 (v := ?_) rfl (by kernel_rfl) (fun _ _ _ h => h) (by rfl) ?hy hH ?_
  case hy => (intro w9_ hS9; clear hS9; go_simp; try with_reducible rfl)
  (try simp only [Bk.PU, Act.put])
  refine tkL 16 (v := ?_) rfl (by kernel_rfl) (fun _ _ _ h => h) (by rfl) ?hy hH ?_
  case hy => (intro w9_ hS9; have t := (HKI2.out.next hS9).cell; clear hS9; go_simp; try with_reducible rfl)
  (try simp only [Bk.PU, Act.put])
  refine tkL 17 (v := ?_) rfl (by kernel_rfl) (fun _ _ _ h => h) (by rfl) ?hy hH ?_
  case hy => (intro w9_ hS9; clear hS9; go_simp; try with_reducible rfl)
  (try simp only [Bk.PU, Act.put])
  refine tkL 18 (v := ?_) rfl (by kernel_rfl) (fun _ _ _ h => h) (by rfl) ?hy hH ?_
  case hy => (intro w9_ hS9; clear hS9; go_simp; try with_reducible rfl)
  (try simp only [Bk.PU, Act.put])
  refine tkL 19 (v := ?_) rfl (by kernel_rfl) (fun _ _ _ h => h) (by rfl) ?hy hH ?_
  case hy => (intro w9_ hS9; clear hS9; go_simp; try with_reducible rfl)
  (try simp only [Bk.PU, Act.put])
  refine tkL 20 (v := ?_) rfl (by kernel_rfl) (fun _ _ _ h => h) (by rfl) ?hy hH ?_
  case hy => (intro w9_ hS9; have t := (hS9.cell (p := ⟨b, off + 2 + a, none⟩) hblt).trans er; clear hS9; go_simp; try with_reducible rfl)
  (try simp only [Bk.PU, Act.put])
  refine wpAnyL_ready (rs := [5, 21]) (by kernel_rfl) (by simp) ?_
  refine AllReadyL.cons rfl (fun K hK => ?_) (AllReadyL.cons rfl (fun K hK => ?_) (AllReadyL.nil))
  · go_simp
    replace hH : Below w2.heap.size w2 _ := hX.alloc (by have := hX.size; omega) (.cells #[] 3)
    refine hK.out _ _ hH (fun _ => ?_)
    clear hK
    (try simp only [Bk.PU, Act.put])
    refine wpAnyL_at ?_
    intro wb hwn
    have hbn : Below wa.heap.size wa wb := by rw [hwn]; exact (Below.refl _ _).alloc (Nat.le_refl _) _
    have K_5 : Blk wb wa.heap.size 3 #[] := by rw [hwn]; exact Blk.new _ _ _
    have zn_5 : wb.heap.size = wa.heap.size + 1 := by rw [hwn]; simp
    have hz_5 : w2.heap.size ≤ wa.heap.size := hX.size
    replace hX := hX.next hbn
    replace hH := hX
    clear hwn hbn
    refine wpAnyL_ready (rs := [13, 21]) (by kernel_rfl) (by simp) ?_
    refine AllReadyL.cons rfl (fun K hK => ?_) (AllReadyL.cons rfl (fun K hK => ?_) (AllReadyL.nil))
    · rw [if_pos (by rfl)]
      refine wp_appS (.tmp 388) (.tmp 395) 26 rfl w2.heap.size 3 i9 _ 1 8 Tryd.underlying26 li lz ls lb rfl (by decide) (.slice (some ⟨wa.heap.size, 0, none⟩) 0 0) 0 [] (by simp [Act.eval]) (own_blk0 K_5 hz_5) (by simp [Act.eval]) (HSL.out.upD (fun k hk => hk.1) hX) (oneInt _) (by unfold maxLen; have := HST.out; omega) (by have := HST.out; omega) hX.size ?_
      intro v1 wc hown1 hgr1 hat1
      replace hX := hX.grown hgr1 hX.size (fun k hk => by simp [Value.ownBlock] at hk; omega)
      replace hH := hX
      obtain ⟨A1, c1, rfl⟩ := own_form hown1
      have HO1 := Lib.hid hown1
      clear hown1 hgr1 hat1 K_5
      refine hK.out _ _ hH (fun _ => ?_)
      clear hK
      (try simp only [Bk.PU, Act.put])
      refine wpAnyL_next (i := 21) rfl (by kernel_rfl) (fun K hK => ?_)
      go_simp
      replace hH : Below w2.heap.size w2 _ := hX.alloc (by have := hX.size; omega) (.cells #[.int .i64 (M.reg a)] 3)
      refine hK.out _ _ hH (fun _ => ?_)
      clear hK
      (try simp only [Bk.PU, Act.put])
      refine wpAnyL_at ?_
      intro wd hwn
      have hbn : Below wc.heap.size wc wd := by rw [hwn]; exact (Below.refl _ _).alloc (Nat.le_refl _) _
      have K_21 : Blk wd wc.heap.size 3 #[.int .i64 (M.reg a)] := by rw [hwn]; exact Blk.new _ _ _
      have zn_21 : wd.heap.size = wc.heap.size + 1 := by rw [hwn]; simp
      have hz_21 : w2.heap.size ≤ wc.heap.size := hX.size
      replace HO1 := Lib.hid (own_below HO1.out hbn (Nat.le_refl _))
      replace hX := hX.next hbn
      replace hH := hX
      clear hwn hbn
      refine wpAnyL_next (i := 22) rfl (by kernel_rfl) (fun K hK => ?_)
      rw [if_pos (by rfl)]
      refine wp_appS (.tmp 396) (.tmp 404) 26 rfl w2.heap.size 3 i9 _ 1 8 Tryd.underlying26 li lz ls lb rfl (by decide) (.slice A1 (0 + (M.stk f).length) c1) (0 + (M.stk f).length) ([] ++ intCells (M.stk f)) (by simp [Act.eval]) HO1.out (by simp [Act.eval]) (sl_blk1 K_21) (by intro u hu; simp at hu; subst hu; rfl) (by unfold maxLen; have := HST.out; omega) (by have := HST.out; omega) hX.size ?_
      intro v2 we hown2 hgr2 hat2
      simp only [Nat.zero_add] at hown2
      replace hX := hX.grown hgr2 hX.size (fun k hk => own_block_ge HO1.out hk)
      replace hH := hX
      have HS2 := Lib.hid (show Sl we (fun k => w2.heap.size ≤ k ∧ k < we.heap.size) 1 v2 (M.stk f ++ [M.reg a]).length (intCells (M.stk f ++ [M.reg a])) from by have h2 := Sl.of_own hown2; rw [intCells_append, List.length_append]; simpa [intCells] using h2)
      obtain ⟨A2, c2, rfl⟩ := own_form hown2
      have E2 : we.cell? ⟨gs, f, none⟩ = some (.slice As (M.stk f).length cs) := (hX.cell (p := ⟨gs, f, none⟩) hglt).trans es
      have F2 : we.frozen? ⟨gs, f, none⟩ = false := ((bcell hX).2 gs f hglt).trans zs
      clear hown2 hgr2 hat2 K_21 HO1
      refine hK.out _ _ hH (fun _ => ?_)
      clear hK
      (try simp only [Bk.PU, Act.put])
      refine tkL 23 (v := ?_) rfl (by kernel_rfl) (fun _ _ _ h => h) (by rfl) ?hy hH ?_
      case hy => (intro w9_ hS9; clear hS9; go_simp; try with_reducible rfl)
      (try simp only [Bk.PU, Act.put])
      refine wpAnyL_last (l := 24) rfl (by kernel_rfl) (by kernel_rfl) (fun K hK => ?_)
      go_simp
      refine hK.out _ _ ?_
      clear hK
      (try simp only [Bk.PU, Act.put])
      go_wp2_with fail
      refine wp_nameY ?_
      intro wq hwq
      have HQ : Hid (MOn wq ⟨b, tt, pre, post, off, gm, gs, fx⟩ (M.setS f (M.stk f ++ [M.reg a])) _ _ _ _ _ _) := Lib.hid (by rw [hwq]; exact (H2.out.next hX).setStk f HL.out _ (M.stk f ++ [M.reg a]) (HS2.out.mono fun k hk => H2.out.fresh hk.1 hk.2))
      have KQ : Blk wq w.heap.size 42 #[.int .u8 (12), .int .i64 (a), .int .i64 (i), .int .i64 (c), .int .i64 (d)] := by rw [hwq]; exact (Below.heap_setCell _ ⟨gs, f, none⟩ _ _ hgI').trans (HKI2.out.next hX)
      have HFQ : Hid (Fr (Pl.O ⟨b, tt, pre, post, off, gm, gs, fx⟩) w wq) := Lib.hid (by rw [hwq]; exact (Fr.of (hBw2.next hX)).set (.inr (.inr rfl)) _)
      have erq : wq.cell? ⟨b, off + 2 + a, none⟩ = some (.int .i64 (M.reg a)) := HQ.out.cr a ha
      have zrq : wq.frozen? ⟨b, off + 2 + a, none⟩ = false := HQ.out.frozen (off + 2 + a)
      obtain ⟨zIq, TIq, FIq⟩ := KQ.open_
      clear hwq KQ er zr zI TI FI e19 es zs hX hH E2 F2 HS2
      go_region
      go_wp2_with fail
      go_ret
      exact ⟨rfl, (HQ.out.setReg a ha 0).matE rfl, by have HF := HFQ.out; repeat' (first | with_reducible (first | assumption | apply Fr.refl | apply Fr.drew | apply Fr.drewN | apply Fr.alloc | apply Fr.set) | exact .inl rfl | exact .inr (.inl rfl) | exact .inr (.inr rfl) | (apply Fr.of; assumption))⟩
    · go_simp
      replace hH : Below w2.heap.size w2 _ := hX.alloc (by have := hX.size; omega) (.cells #[.int .i64 (M.reg a)] 3)
      refine hK.out _ _ hH (fun _ => ?_)
      clear hK
      (try simp only [Bk.PU, Act.put])
      refine wpAnyL_at ?_
      intro wc hwn
      have hbn : Below wb.heap.size wb wc := by rw [hwn]; exact (Below.refl _ _).alloc (Nat.le_refl _) _
      have K_21 : Blk wc wb.heap.size 3 #[.int .i64 (M.reg a)] := by rw [hwn]; exact Blk.new _ _ _
      have zn_21 : wc.heap.size = wb.heap.size + 1 := by rw [hwn]; simp
      have hz_21 : w2.heap.size ≤ wb.heap.size := hX.size
      replace K_5 := K_5.next hbn
      replace hX := hX.next hbn
      replace hH := hX
      clear hwn hbn
      refine wpAnyL_next (i := 13) rfl (by kernel_rfl) (fun K hK => ?_)
      rw [if_pos (by rfl)]
      refine wp_appS (.tmp 388) (.tmp 395) 26 rfl w2.heap.size 3 i9 _ 1 8 Tryd.underlying26 li lz ls lb rfl (by decide) (.slice (some ⟨wa.heap.size, 0, none⟩) 0 0) 0 [] (by simp [Act.eval]) (own_blk0 K_5 hz_5) (by simp [Act.eval]) (HSL.out.upD (fun k hk => hk.1) hX) (oneInt _) (by unfold maxLen; have := HST.out; omega) (by have := HST.out; omega) hX.size ?_
      intro v1 wd hown1 hgr1 hat1
      replace K_21 : Blk wd wb.heap.size 3 #[.int .i64 (M.reg a)] := (hgr1.block _ K_21.lt (fun e => by simp [Value.ownBlock] at e; omega)).trans K_21
      replace hX := hX.grown hgr1 hX.size (fun k hk => by simp [Value.ownBlock] at hk; omega)
      replace hH := hX
      obtain ⟨A1, c1, rfl⟩ := own_form hown1
      have HO1 := Lib.hid hown1
      clear hown1 hgr1 hat1 K_5
      refine hK.out _ _ hH (fun _ => ?_)
      clear hK
      (try simp only [Bk.PU, Act.put])
      refine wpAnyL_next (i := 22) rfl (by kernel_rfl) (fun K hK => ?_)
      rw [if_pos (by rfl)]
      refine wp_appS (.tmp 396) (.tmp 404) 26 rfl w2.heap.size 3 i9 _ 1 8 Tryd.underlying26 li lz ls lb rfl (by decide) (.slice A1 (0 + (M.stk f).length) c1) (0 + (M.stk f).length) ([] ++ intCells (M.stk f)) (by simp [Act.eval]) HO1.out (by simp [Act.eval]) (sl_blk1 K_21) (by intro u hu; simp at hu; subst hu; rfl) (by unfold maxLen; have := HST.out; omega) (by have := HST.out; omega) hX.size ?_
      intro v2 we hown2 hgr2 hat2
      simp only [Nat.zero_add] at hown2
      replace hX := hX.grown hgr2 hX.size (fun k hk => own_block_ge HO1.out hk)
      replace hH := hX
      have HS2 := Lib.hid (show Sl we (fun k => w2.heap.size ≤ k ∧ k < we.heap.size) 1 v2 (M.stk f ++ [M.reg a]).length (intCells (M.stk f ++ [M.reg a])) from by have h2 := Sl.of_own hown2; rw [intCells_append, List.length_append]; simpa [intCells] using h2)
      obtain ⟨A2, c2, rfl⟩ := own_form hown2
      have E2 : we.cell? ⟨gs, f, none⟩ = some (.slice As (M.stk f).length cs) := (hX.cell (p := ⟨gs, f, none⟩) hglt).trans es
      have F2 : we.frozen? ⟨gs, f, none⟩ = false := ((bcell hX).2 gs f hglt).trans zs
      clear hown2 hgr2 hat2 K_21 HO1
      refine hK.out _ _ hH (fun _ => ?_)
      clear hK
      (try simp only [Bk.PU, Act.put])
      refine tkL 23 (v := ?_) rfl (by kernel_rfl) (fun _ _ _ h => h) (by rfl) ?hy hH ?_
      case hy => (intro w9_ hS9; clear hS9; go_simp; try with_reducible rfl)
      (try simp only [Bk.PU, Act.put])
      refine wpAnyL_last (l := 24) rfl (by kernel_rfl) (by kernel_rfl) (fun K hK => ?_)
      go_simp
      refine hK.out _ _ ?_
      clear hK
      (try simp only [Bk.PU, Act.put])
      go_wp2_with fail
      refine wp_nameY ?_
      intro wq hwq
      have HQ : Hid (MOn wq ⟨b, tt, pre, post, off, gm, gs, fx⟩ (M.setS f (M.stk f ++ [M.reg a])) _ _ _ _ _ _) := Lib.hid (by rw [hwq]; exact (H2.out.next hX).setStk f HL.out _ (M.stk f ++ [M.reg a]) (HS2.out.mono fun k hk => H2.out.fresh hk.1 hk.2))
      have KQ : Blk wq w.heap.size 42 #[.int .u8 (12), .int .i64 (a), .int .i64 (i), .int .i64 (c), .int .i64 (d)] := by rw [hwq]; exact (Below.heap_setCell _ ⟨gs, f, none⟩ _ _ hgI').trans (HKI2.out.next hX)
      have HFQ : Hid (Fr (Pl.O ⟨b, tt, pre, post, off, gm, gs, fx⟩) w wq) := Lib.hid (by rw [hwq]; exact (Fr.of (hBw2.next hX)).set (.inr (.inr rfl)) _)
      have erq : wq.cell? ⟨b, off + 2 + a, none⟩ = some (.int .i64 (M.reg a)) := HQ.out.cr a ha
      have zrq : wq.frozen? ⟨b, off + 2 + a, none⟩ = false := HQ.out.frozen (off + 2 + a)
      obtain ⟨zIq, TIq, FIq⟩ := KQ.open_
      clear hwq KQ er zr zI TI FI e19 es zs hX hH E2 F2 HS2
      go_region
      go_wp2_with fail
      go_ret
      exact ⟨rfl, (HQ.out.setReg a ha 0).matE rfl, by have HF := HFQ.out; repeat' (first | with_reducible (first | assumption | apply Fr.refl | apply Fr.drew | apply Fr.drewN | apply Fr.alloc | apply Fr.set) | exact .inl rfl | exact .inr (.inl rfl) | exact .inr (.inr rfl) | (apply Fr.of; assumption))⟩
  · go_simp
    replace hH : Below w2.heap.size w2 _ := hX.alloc (by have := hX.size; omega) (.cells #[.int .i64 (M.reg a)] 3)
    refine hK.out _ _ hH (fun _ => ?_)
    clear hK
    (try simp only [Bk.PU, Act.put])
    refine wpAnyL_at ?_
    intro wb hwn
    have hbn : Below wa.heap.size wa wb := by rw [hwn]; exact (Below.refl _ _).alloc (Nat.le_refl _) _
    have K_21 : Blk wb wa.heap.size 3 #[.int .i64 (M.reg a)] := by rw [hwn]; exact Blk.new _ _ _
    have zn_21 : wb.heap.size = wa.heap.size + 1 := by rw [hwn]; simp
    have hz_21 : w2.heap.size ≤ wa.heap.size := hX.size
    replace hX := hX.next hbn
    replace hH := hX
    clear hwn hbn
    refine wpAnyL_next (i := 5) rfl (by kernel_rfl) (fun K hK => ?_)
    go_simp
    replace hH : Below w2.heap.size w2 _ := hX.alloc (by have := hX.size; omega) (.cells #[] 3)
    refine hK.out _ _ hH (fun _ => ?_)
    clear hK
    (try simp only [Bk.PU, Act.put])
    refine wpAnyL_at ?_
    intro wc hwn
    have hbn : Below wb.heap.size wb wc := by rw [hwn]; exact (Below.refl _ _).alloc (Nat.le_refl _) _
    have K_5 : Blk wc wb.heap.size 3 #[] := by rw [hwn]; exact Blk.new _ _ _
    have zn_5 : wc.heap.size = wb.heap.size + 1 := by rw [hwn]; simp
    have hz_5 : w2.heap.size ≤ wb.heap.size := hX.size
    replace K_21 := K_21.next hbn
    replace hX := hX.next hbn
    replace hH := hX
    clear hwn hbn
    refine wpAnyL_next (i := 13) rfl (by kernel_rfl) (fun K hK => ?_)
    rw [if_pos (by rfl)]
    refine wp_appS (.tmp 388) (.tmp 395) 26 rfl w2.heap.size 3 i9 _ 1 8 Tryd.underlying26 li lz ls lb rfl (by decide) (.slice (some ⟨wb.heap.size, 0, none⟩) 0 0) 0 [] (by simp [Act.eval]) (own_blk0 K_5 hz_5) (by simp [Act.eval]) (HSL.out.upD (fun k hk => hk.1) hX) (oneInt _) (by unfold maxLen; have := HST.out; omega) (by have := HST.out; omega) hX.size ?_
    intro v1 wd hown1 hgr1 hat1
    replace K_21 : Blk wd wa.heap.size 3 #[.int .i64 (M.reg a)] := (hgr1.block _ K_21.lt (fun e => by simp [Value.ownBlock] at e; omega)).trans K_21
    replace hX := hX.grown hgr1 hX.size (fun k hk => by simp [Value.ownBlock] at hk; omega)
    replace hH := hX
    obtain ⟨A1, c1, rfl⟩ := own_form hown1
    have HO1 := Lib.hid hown1
    clear hown1 hgr1 hat1 K_5
    refine hK.out _ _ hH (fun _ => ?_)
    clear hK
    (try simp only [Bk.PU, Act.put])
    refine wpAnyL_next (i := 22) rfl (by kernel_rfl) (fun K hK => ?_)
    rw [if_pos (by rfl)]
    refine wp_appS (.tmp 396) (.tmp 404) 26 rfl w2.heap.size 3 i9 _ 1 8 Tryd.underlying26 li lz ls lb rfl (by decide) (.slice A1 (0 + (M.stk f).length) c1) (0 + (M.stk f).length) ([] ++ intCells (M.stk f)) (by simp [Act.eval]) HO1.out (by simp [Act.eval]) (sl_blk1 K_21) (by intro u hu; simp at hu; subst hu; rfl) (by unfold maxLen; have := HST.out; omega) (by have := HST.out; omega) hX.size ?_
    intro v2 we hown2 hgr2 hat2
    simp only [Nat.zero_add] at hown2
    replace hX := hX.grown hgr2 hX.size (fun k hk => own_block_ge HO1.out hk)
    replace hH := hX
    have HS2 := Lib.hid (show Sl we (fun k => w2.heap.size ≤ k ∧ k < we.heap.size) 1 v2 (M.stk f ++ [M.reg a]).length (intCells (M.stk f ++ [M.reg a])) from by have h2 := Sl.of_own hown2; rw [intCells_append, List.length_append]; simpa [intCells] using h2)
    obtain ⟨A2, c2, rfl⟩ := own_form hown2
    have E2 : we.cell? ⟨gs, f, none⟩ = some (.slice As (M.stk f).length cs) := (hX.cell (p := ⟨gs, f, none⟩) hglt).trans es
    have F2 : we.frozen? ⟨gs, f, none⟩ = false := ((bcell hX).2 gs f hglt).trans zs
    clear hown2 hgr2 hat2 K_21 HO1
    refine hK.out _ _ hH (fun _ => ?_)
    clear hK
    (try simp only [Bk.PU, Act.put])
    refine tkL 23 (v := ?_) rfl (by kernel_rfl) (fun _ _ _ h => h) (by rfl) ?hy hH ?_
    case hy => (intro w9_ hS9; clear hS9; go_simp; try with_reducible rfl)
    (try simp only [Bk.PU, Act.put])
    refine wpAnyL_last (l := 24) rfl (by kernel_rfl) (by kernel_rfl) (fun K hK => ?_)
    go_simp
    refine hK.out _ _ ?_
    clear hK
    (try simp only [Bk.PU, Act.put])
    go_wp2_with fail
    refine wp_nameY ?_
    intro wq hwq
    have HQ : Hid (MOn wq ⟨b, tt, pre, post, off, gm, gs, fx⟩ (M.setS f (M.stk f ++ [M.reg a])) _ _ _ _ _ _) := Lib.hid (by rw [hwq]; exact (H2.out.next hX).setStk f HL.out _ (M.stk f ++ [M.reg a]) (HS2.out.mono fun k hk => H2.out.fresh hk.1 hk.2))
    have KQ : Blk wq w.heap.size 42 #[.int .u8 (12), .int .i64 (a), .int .i64 (i), .int .i64 (c), .int .i64 (d)] := by rw [hwq]; exact (Below.heap_setCell _ ⟨gs, f, none⟩ _ _ hgI').trans (HKI2.out.next hX)
    have HFQ : Hid (Fr (Pl.O ⟨b, tt, pre, post, off, gm, gs, fx⟩) w wq) := Lib.hid (by rw [hwq]; exact (Fr.of (hBw2.next hX)).set (.inr (.inr rfl)) _)
    have erq : wq.cell? ⟨b, off + 2 + a, none⟩ = some (.int .i64 (M.reg a)) := HQ.out.cr a ha
    have zrq : wq.frozen? ⟨b, off + 2 + a, none⟩ = false := HQ.out.frozen (off + 2 + a)
    obtain ⟨zIq, TIq, FIq⟩ := KQ.open_
    clear hwq KQ er zr zI TI FI e19 es zs hX hH E2 F2 HS2
    go_region
    go_wp2_with fail
    go_ret
    exact ⟨rfl, (HQ.out.setReg a ha 0).matE rfl, by have HF := HFQ.out; repeat' (first | with_reducible (first | assumption | apply Fr.refl | apply Fr.drew | apply Fr.drewN | apply Fr.alloc | apply Fr.set) | exact .inl rfl | exact .inr (.inl rfl) | exact .inr (.inr rfl) | (apply Fr.of; assumption))⟩
end Go.Proofs.YteocbllbljeajaaDoor
