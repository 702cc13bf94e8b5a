/- Several texts in one: RcL RcM. -/
import Derived.Test.YteocbllbljeajaaDoorRX
import Derived.Test.YteocbllbljeajaaDoorZHeldL
import Derived.Test.YteocbllbljeajaaDoorZHeld
import Derived.BigRegion
set_option linter.unusedVariables false
set_option linter.unusedSimpArgs false
/- straight: swap of stacks, frames. -/
set_option maxRecDepth 100000
set_option maxHeartbeats 8000000
set_option maxRecDepth 100000
set_option linter.unusedVariables false
set_option linter.unusedSimpArgs false
namespace Go.Proofs.YteocbllbljeajaaDoor
open Go.RowKit Bk
variable {w : World} {D : Nat → Prop} {P : Pl} {M : Mach} {vm vs vc vi vo : Value} {sv : List Value}
theorem rs_16_oo (h : MOn w P M vm vs vc vi vo sv) (hB : MBd M) (x y : Int) (x0 : 0 ≤ x) (x1 : x ≤ 16384) (y0 : 0 ≤ y) (y1 : y ≤ 16384) (c d : Int) (hs : 1 ≤ M.s.length) (ha : (M.s.length : Int) ≤ find M x) (hb : (M.s.length : Int) ≤ find M y) :
    SC w P (16) (x) (y) (c) (d) ((12, M)) := by
  unfold SC
  have HB := Lib.hid hB
  have HS := Lib.hid hs; clear hs
  have HFa := Lib.hid ha; have HFb := Lib.hid hb; clear ha hb
  have hgm0 := h.gm; have hgs0 := h.gs
  obtain ⟨w1, hw1, h1, hbw, KI, hlt, hlt0, hne0, hne⟩ := h.al 42 #[.int .u8 (16), .int .i64 (x), .int .i64 (y), .int .i64 (c), .int .i64 (d)]; have H1 := Lib.hid h1; have HKI := Lib.hid KI; obtain ⟨zI, TI, FI⟩ := KI.open_; obtain ⟨b, tt, pre, post, off, gm, gs, fx⟩ := P; dsimp only at *; clear h h1 KI hB
  go_enter Tryd.func35, Tryd.ntmps35
  go_wp2_with fail
  rw [← hw1]
  clear hw1
  refine wp_region_held_drew (S := fun W => Below w1.heap.size w1 W) (by kernel_rfl) ((Below.refl _ _).drew) (fun hH => ?_)
  refine tkH 0 (v := ?_) rfl (by kernel_rfl) (fun _ _ _ h => h) (by rfl) ?hy hH ?_
  case hy => (intro w9_ hS9; clear hS9; go_simp; try with_reducible rfl)
  (try simp only [Bk.PU, Act.put])
  refine tkH 1 (v := ?_) rfl (by kernel_rfl) (fun _ _ _ h => h) (by rfl) ?hy hH ?_
  case hy => (intro w9_ hS9; clear hS9; go_simp; try with_reducible rfl)
  (try simp only [Bk.PU, Act.put])
  refine wpAnyH_take (i := 2) (v := _) rfl (by kernel_rfl) (by kernel_rfl) (by kernel_rfl) (fun _ _ _ h => h) (Or.inl ⟨by rfl, yields_load 30 (x := .tmp 487) rfl rfl (fun W hW => load_mach (H1.out.next hW).rd)⟩) hH ?_
  (try simp only [Bk.PU, Act.put])
  refine tkH 3 (v := ?_) rfl (by kernel_rfl) (fun _ _ _ h => h) (by rfl) ?hy hH ?_
  case hy => (intro w9_ hS9; clear hS9; go_simp; try with_reducible rfl)
  (try simp only [Bk.PU, Act.put])
  refine tkH 4 (v := ?_) rfl (by kernel_rfl) (fun _ _ _ h => h) (by rfl) ?hy hH ?_
  case hy => (intro w9_ hS9; have T9 := (HKI.out.next hS9).cell; clear hS9; go_simp; try with_reducible rfl)
  (try simp only [Bk.PU, Act.put])
  refine tkH 6 (v := ?_) rfl (by kernel_rfl) (fun _ _ _ h => h) (by rfl) ?hy hH ?_
  case hy => (intro w9_ hS9; clear hS9; go_simp; try with_reducible rfl)
  (try simp only [Bk.PU, Act.put])
  refine tkH 7 (v := ?_) rfl (by kernel_rfl) (fun _ _ _ h => h) (by rfl) ?hy hH ?_
  case hy => (intro w9_ hS9; clear hS9; go_simp; try with_reducible rfl)
  (try simp only [Bk.PU, Act.put])
  refine wpAnyH_take (i := 8) (v := _) rfl (by kernel_rfl) (by kernel_rfl) (by kernel_rfl) (fun _ _ _ h => h) (Or.inl ⟨by rfl, yields_load 30 (x := .tmp 493) rfl rfl (fun W hW => load_mach (H1.out.next hW).rd)⟩) hH ?_
  (try simp only [Bk.PU, Act.put])
  refine tkH 9 (v := ?_) rfl (by kernel_rfl) (fun _ _ _ h => h) (by rfl) ?hy hH ?_
  case hy => (intro w9_ hS9; clear hS9; go_simp; try with_reducible rfl)
  (try simp only [Bk.PU, Act.put])
  refine tkH 10 (v := ?_) rfl (by kernel_rfl) (fun _ _ _ h => h) (by rfl) ?hy hH ?_
  case hy => (intro w9_ hS9; have T9 := (HKI.out.next hS9).cell; clear hS9; go_simp; try with_reducible rfl)
  (try simp only [Bk.PU, Act.put])
  refine wpAnyH_ready (rs := [5]) (by kernel_rfl) (by simp) ?_
  refine AllReadyH.cons rfl (fun K hK => ?_) (AllReadyH.nil)
  go_simp
  refine (c_rstackOut (H1.out.next hH).rd.mls x x0 x1 HB.out.s0 HB.out.s1 HS.out HFa.out).mono ?_
  rintro e w9 ⟨rfl, hb2⟩
  replace hH := hH.next hb2
  clear hb2
  refine hK.out _ _ hH (fun _ => ?_)
  clear hK
  (try simp only [Bk.PU, Act.put])
  refine wpAnyH_ready (rs := [11]) (by kernel_rfl) (by simp) ?_
  refine AllReadyH.cons rfl (fun K hK => ?_) (AllReadyH.nil)
  go_simp
  refine (c_rstackOut (H1.out.next hH).rd.mls y y0 y1 HB.out.s0 HB.out.s1 HS.out HFb.out).mono ?_
  rintro e w2 ⟨rfl, hb2⟩
  replace hH := hH.next hb2
  clear hb2
  refine hK.out _ _ hH (fun _ => ?_)
  clear hK
  (try simp only [Bk.PU, Act.put])
  refine tkH 12 (v := ?_) rfl (by kernel_rfl) (fun _ _ _ h => h) (by rfl) ?hy hH ?_
  case hy => (intro w9_ hS9; clear hS9; go_simp; try with_reducible rfl)
  (try simp only [Bk.PU, Act.put])
  refine tkH 13 (v := ?_) rfl (by kernel_rfl) (fun _ _ _ h => h) (by rfl) ?hy hH ?_
  case hy => (intro w9_ hS9; clear hS9; go_simp; try with_reducible rfl)
  (try simp only [Bk.PU, Act.put])
  refine wpAnyH_done (by kernel_rfl) ?_ _
  have hB2 : Below w1.heap.size w1 w2 := hH
  go_wp2_with fail
  go_ret
  exact ⟨rfl, (H1.out.next hB2).mat, Fr.of (hbw.next hB2)⟩
theorem rs_16_oi (h : MOn w P M vm vs vc vi vo sv) (hB : MBd M) (x y : Int) (x0 : 0 ≤ x) (x1 : x ≤ 16384) (y0 : 0 ≤ y) (y1 : y ≤ 16384) (c d : Int) (hs : 1 ≤ M.s.length) (fb : Nat) (ha : (M.s.length : Int) ≤ find M x) (hb : find M y = fb) (hlb : fb < M.s.length) :
    SC w P (16) (x) (y) (c) (d) ((12, M)) := by
  unfold SC
  have HB := Lib.hid hB
  have HS := Lib.hid hs; clear hs
  have HFa := Lib.hid ha; have HFb := Lib.hid hb; have HLb := Lib.hid hlb; clear ha hb hlb
  have hgm0 := h.gm; have hgs0 := h.gs
  obtain ⟨w1, hw1, h1, hbw, KI, hlt, hlt0, hne0, hne⟩ := h.al 42 #[.int .u8 (16), .int .i64 (x), .int .i64 (y), .int .i64 (c), .int .i64 (d)]; have H1 := Lib.hid h1; have HKI := Lib.hid KI; obtain ⟨zI, TI, FI⟩ := KI.open_; obtain ⟨b, tt, pre, post, off, gm, gs, fx⟩ := P; dsimp only at *; clear h h1 KI hB
  go_enter Tryd.func35, Tryd.ntmps35
  go_wp2_with fail
  rw [← hw1]
  clear hw1
  refine wp_region_held_drew (S := fun W => Below w1.heap.size w1 W) (by kernel_rfl) ((Below.refl _ _).drew) (fun hH => ?_)
  refine tkH 0 (v := ?_) rfl (by kernel_rfl) (fun _ _ _ h => h) (by rfl) ?hy hH ?_
  case hy => (intro w9_ hS9; clear hS9; go_simp; try with_reducible rfl)
  (try simp only [Bk.PU, Act.put])
  refine tkH 1 (v := ?_) rfl (by kernel_rfl) (fun _ _ _ h => h) (by rfl) ?hy hH ?_
  case hy => (intro w9_ hS9; clear hS9; go_simp; try with_reducible rfl)
  (try simp only [Bk.PU, Act.put])
  refine wpAnyH_take (i := 2) (v := _) rfl (by kernel_rfl) (by kernel_rfl) (by kernel_rfl) (fun _ _ _ h => h) (Or.inl ⟨by rfl, yields_load 30 (x := .tmp 487) rfl rfl (fun W hW => load_mach (H1.out.next hW).rd)⟩) hH ?_
  (try simp only [Bk.PU, Act.put])
  refine tkH 3 (v := ?_) rfl (by kernel_rfl) (fun _ _ _ h => h) (by rfl) ?hy hH ?_
  case hy => (intro w9_ hS9; clear hS9; go_simp; try with_reducible rfl)
  (try simp only [Bk.PU, Act.put])
  refine tkH 4 (v := ?_) rfl (by kernel_rfl) (fun _ _ _ h => h) (by rfl) ?hy hH ?_
  case hy => (intro w9_ hS9; have T9 := (HKI.out.next hS9).cell; clear hS9; go_simp; try with_reducible rfl)
  (try simp only [Bk.PU, Act.put])
  refine tkH 6 (v := ?_) rfl (by kernel_rfl) (fun _ _ _ h => h) (by rfl) ?hy hH ?_
  case hy => (intro w9_ hS9; clear hS9; go_simp; try with_reducible rfl)
  (try simp only [Bk.PU, Act.put])
  refine tkH 7 (v := ?_) rfl (by kernel_rfl) (fun _ _ _ h => h) (by rfl) ?hy hH ?_
  case hy => (intro w9_ hS9; clear hS9; go_simp; try with_reducible rfl)
  (try simp only [Bk.PU, Act.put])
  refine wpAnyH_take (i := 8) (v := _) rfl (by kernel_rfl) (by kernel_rfl) (by kernel_rfl) (fun _ _ _ h => h) (Or.inl ⟨by rfl, yields_load 30 (x := .tmp 493) rfl rfl (fun W hW => load_mach (H1.out.next hW).rd)⟩) hH ?_
  (try simp only [Bk.PU, Act.put])
  refine tkH 9 (v := ?_) rfl (by kernel_rfl) (fun _ _ _ h => h) (by rfl) ?hy hH ?_
  case hy => (intro w9_ hS9; clear hS9; go_simp; try with_reducible rfl)
  (try simp only [Bk.PU, Act.put])
  refine tkH 10 (v := ?_) rfl (by kernel_rfl) (fun _ _ _ h => h) (by rfl) ?hy hH ?_
  case hy => (intro w9_ hS9; have T9 := (HKI.out.next hS9).cell; clear hS9; go_simp; try with_reducible rfl)
  (try simp only [Bk.PU, Act.put])
  refine wpAnyH_ready (rs := [5]) (by kernel_rfl) (by simp) ?_
  refine AllReadyH.cons rfl (fun K hK => ?_) (AllReadyH.nil)
  go_simp
  refine (c_rstackOut (H1.out.next hH).rd.mls x x0 x1 HB.out.s0 HB.out.s1 HS.out HFa.out).mono ?_
  rintro e w9 ⟨rfl, hb2⟩
  replace hH := hH.next hb2
  clear hb2
  refine hK.out _ _ hH (fun _ => ?_)
  clear hK
  (try simp only [Bk.PU, Act.put])
  refine wpAnyH_ready (rs := [11]) (by kernel_rfl) (by simp) ?_
  refine AllReadyH.cons rfl (fun K hK => ?_) (AllReadyH.nil)
  go_simp
  refine (c_rstackIn (H1.out.next hH).rd.mls y y0 y1 HB.out.s0 HB.out.s1 fb HFb.out HLb.out).mono ?_
  rintro e w2 ⟨rfl, hb2⟩
  replace hH := hH.next hb2
  clear hb2
  refine hK.out _ _ hH (fun _ => ?_)
  clear hK
  (try simp only [Bk.PU, Act.put])
  refine tkH 12 (v := ?_) rfl (by kernel_rfl) (fun _ _ _ h => h) (by rfl) ?hy hH ?_
  case hy => (intro w9_ hS9; clear hS9; go_simp; try with_reducible rfl)
  (try simp only [Bk.PU, Act.put])
  refine tkH 13 (v := ?_) rfl (by kernel_rfl) (fun _ _ _ h => h) (by rfl) ?hy hH ?_
  case hy => (intro w9_ hS9; clear hS9; go_simp; try with_reducible rfl)
  (try simp only [Bk.PU, Act.put])
  refine wpAnyH_done (by kernel_rfl) ?_ _
  have hB2 : Below w1.heap.size w1 w2 := hH
  go_wp2_with fail
  go_ret
  exact ⟨rfl, (H1.out.next hB2).mat, Fr.of (hbw.next hB2)⟩
theorem rs_16_io (h : MOn w P M vm vs vc vi vo sv) (hB : MBd M) (x y : Int) (x0 : 0 ≤ x) (x1 : x ≤ 16384) (y0 : 0 ≤ y) (y1 : y ≤ 16384) (c d : Int) (hs : 1 ≤ M.s.length) (fa : Nat) (hb : (M.s.length : Int) ≤ find M y) (ha : find M x = fa) (hla : fa < M.s.length) :
    SC w P (16) (x) (y) (c) (d) ((12, M)) := by
  unfold SC
  have HB := Lib.hid hB
  have HS := Lib.hid hs; clear hs
  have HFa := Lib.hid ha; have HFb := Lib.hid hb; have HLa := Lib.hid hla; have n6 : ¬ (fa : Int) < 0 := by omega
  clear ha hb hla
  have hgm0 := h.gm; have hgs0 := h.gs
  obtain ⟨w1, hw1, h1, hbw, KI, hlt, hlt0, hne0, hne⟩ := h.al 42 #[.int .u8 (16), .int .i64 (x), .int .i64 (y), .int .i64 (c), .int .i64 (d)]; have H1 := Lib.hid h1; have HKI := Lib.hid KI; obtain ⟨zI, TI, FI⟩ := KI.open_; obtain ⟨b, tt, pre, post, off, gm, gs, fx⟩ := P; dsimp only at *; clear h h1 KI hB
  go_enter Tryd.func35, Tryd.ntmps35
  go_wp2_with fail
  rw [← hw1]
  clear hw1
  refine wp_region_held_drew (S := fun W => Below w1.heap.size w1 W) (by kernel_rfl) ((Below.refl _ _).drew) (fun hH => ?_)
  refine tkH 0 (v := ?_) rfl (by kernel_rfl) (fun _ _ _ h => h) (by rfl) ?hy hH ?_
  case hy => (intro w9_ hS9; clear hS9; go_simp; try with_reducible rfl)
  (try simp only [Bk.PU, Act.put])
  refine tkH 1 (v := ?_) rfl (by kernel_rfl) (fun _ _ _ h => h) (by rfl) ?hy hH ?_
  case hy => (intro w9_ hS9; clear hS9; go_simp; try with_reducible rfl)
  (try simp only [Bk.PU, Act.put])
  refine wpAnyH_take (i := 2) (v := _) rfl (by kernel_rfl) (by kernel_rfl) (by kernel_rfl) (fun _ _ _ h => h) (Or.inl ⟨by rfl, yields_load 30 (x := .tmp 487) rfl rfl (fun W hW => load_mach (H1.out.next hW).rd)⟩) hH ?_
  (try simp only [Bk.PU, Act.put])
  refine tkH 3 (v := ?_) rfl (by kernel_rfl) (fun _ _ _ h => h) (by rfl) ?hy hH ?_
  case hy => (intro w9_ hS9; clear hS9; go_simp; try with_reducible rfl)
  (try simp only [Bk.PU, Act.put])
  refine tkH 4 (v := ?_) rfl (by kernel_rfl) (fun _ _ _ h => h) (by rfl) ?hy hH ?_
  case hy => (intro w9_ hS9; have T9 := (HKI.out.next hS9).cell; clear hS9; go_simp; try with_reducible rfl)
  (try simp only [Bk.PU, Act.put])
  refine tkH 6 (v := ?_) rfl (by kernel_rfl) (fun _ _ _ h => h) (by rfl) ?hy hH ?_
  case hy => (intro w9_ hS9; clear hS9; go_simp; try with_reducible rfl)
  (try simp only [Bk.PU, Act.put])
  refine tkH 7 (v := ?_) rfl (by kernel_rfl) (fun _ _ _ h => h) (by rfl) ?hy hH ?_
  case hy => (intro w9_ hS9; clear hS9; go_simp; try with_reducible rfl)
  (try simp only [Bk.PU, Act.put])
  refine wpAnyH_take (i := 8) (v := _) rfl (by kernel_rfl) (by kernel_rfl) (by kernel_rfl) (fun _ _ _ h => h) (Or.inl ⟨by rfl, yields_load 30 (x := .tmp 493) rfl rfl (fun W hW => load_mach (H1.out.next hW).rd)⟩) hH ?_
  (try simp only [Bk.PU, Act.put])
  refine tkH 9 (v := ?_) rfl (by kernel_rfl) (fun _ _ _ h => h) (by rfl) ?hy hH ?_
  case hy => (intro w9_ hS9; clear hS9; go_simp; try with_reducible rfl)
  (try simp only [Bk.PU, Act.put])
  refine tkH 10 (v := ?_) rfl (by kernel_rfl) (fun _ _ _ h => h) (by rfl) ?hy hH ?_
  case hy => (intro w9_ hS9; have T9 := (HKI.out.next hS9).cell; clear hS9; go_simp; try with_reducible rfl)
  (try simp only [Bk.PU, Act.put])
  refine wpAnyH_ready (rs := [5]) (by kernel_rfl) (by simp) ?_
  refine AllReadyH.cons rfl (fun K hK => ?_) (AllReadyH.nil)
  go_simp
  refine (c_rstackIn (H1.out.next hH).rd.mls x x0 x1 HB.out.s0 HB.out.s1 fa HFa.out HLa.out).mono ?_
  rintro e w9 ⟨rfl, hb2⟩
  replace hH := hH.next hb2
  clear hb2
  refine hK.out _ _ hH (fun _ => ?_)
  clear hK
  (try simp only [Bk.PU, Act.put])
  refine wpAnyH_ready (rs := [11]) (by kernel_rfl) (by simp) ?_
  refine AllReadyH.cons rfl (fun K hK => ?_) (AllReadyH.nil)
  go_simp
  refine (c_rstackOut (H1.out.next hH).rd.mls y y0 y1 HB.out.s0 HB.out.s1 HS.out HFb.out).mono ?_
  rintro e w2 ⟨rfl, hb2⟩
  replace hH := hH.next hb2
  clear hb2
  refine hK.out _ _ hH (fun _ => ?_)
  clear hK
  (try simp only [Bk.PU, Act.put])
  refine tkH 12 (v := ?_) rfl (by kernel_rfl) (fun _ _ _ h => h) (by rfl) ?hy hH ?_
  case hy => (intro w9_ hS9; clear hS9; go_simp; try with_reducible rfl)
  (try simp only [Bk.PU, Act.put])
  refine tkH 13 (v := ?_) rfl (by kernel_rfl) (fun _ _ _ h => h) (by rfl) ?hy hH ?_
  case hy => (intro w9_ hS9; clear hS9; go_simp; try with_reducible rfl)
  (try simp only [Bk.PU, Act.put])
  refine wpAnyH_done (by kernel_rfl) ?_ _
  have hB2 : Below w1.heap.size w1 w2 := hH
  go_wp2_with fail
  go_ret
  exact ⟨rfl, (H1.out.next hB2).mat, Fr.of (hbw.next hB2)⟩
theorem rs_16_f1 (h : MOn w P M vm vs vc vi vo sv) (hB : MBd M) (x y : Int) (x0 : 0 ≤ x) (x1 : x ≤ 16384) (y0 : 0 ≤ y) (y1 : y ≤ 16384) (c d : Int) (fa fb : Nat) (ha : find M x = fa) (hla : fa < M.s.length) (hb : find M y = fb) (hlb : fb < M.s.length) (c1 : fa ≠ 0) (c2 : 1000 < (M.stk fb).length) :
    SC w P (16) (x) (y) (c) (d) ((5, M)) := by
  unfold SC
  have HB := Lib.hid hB
  have HFa := Lib.hid ha; have HFb := Lib.hid hb; have HLa := Lib.hid hla; have HLb := Lib.hid hlb
  have c1' : ((fa : Int) != 0) = true := by simp [c1]
  have c2' : decide (1000 < ((M.stk fb).length : Int)) = true := by simp; omega
  clear c1 c2
  clear ha hb hla hlb
  have hgm0 := h.gm; have hgs0 := h.gs
  obtain ⟨w1, hw1, h1, hbw, KI, hlt, hlt0, hne0, hne⟩ := h.al 42 #[.int .u8 (16), .int .i64 (x), .int .i64 (y), .int .i64 (c), .int .i64 (d)]; have H1 := Lib.hid h1; have HKI := Lib.hid KI; obtain ⟨zI, TI, FI⟩ := KI.open_; obtain ⟨b, tt, pre, post, off, gm, gs, fx⟩ := P; dsimp only at *; clear h h1 KI hB
  go_enter Tryd.func35, Tryd.ntmps35
  go_wp2_with fail
  rw [← hw1]
  clear hw1
  refine wp_region_held_drew (S := fun W => Below w1.heap.size w1 W) (by kernel_rfl) ((Below.refl _ _).drew) (fun hH => ?_)
  refine tkH 0 (v := ?_) rfl (by kernel_rfl) (fun _ _ _ h => h) (by rfl) ?hy hH ?_
  case hy => (intro w9_ hS9; clear hS9; go_simp; try with_reducible rfl)
  (try simp only [Bk.PU, Act.put])
  refine tkH 1 (v := ?_) rfl (by kernel_rfl) (fun _ _ _ h => h) (by rfl) ?hy hH ?_
  case hy => (intro w9_ hS9; clear hS9; go_simp; try with_reducible rfl)
  (try simp only [Bk.PU, Act.put])
  refine wpAnyH_take (i := 2) (v := _) rfl (by kernel_rfl) (by kernel_rfl) (by kernel_rfl) (fun _ _ _ h => h) (Or.inl ⟨by rfl, yields_load 30 (x := .tmp 487) rfl rfl (fun W hW => load_mach (H1.out.next hW).rd)⟩) hH ?_
  (try simp only [Bk.PU, Act.put])
  refine tkH 3 (v := ?_) rfl (by kernel_rfl) (fun _ _ _ h => h) (by rfl) ?hy hH ?_
  case hy => (intro w9_ hS9; clear hS9; go_simp; try with_reducible rfl)
  (try simp only [Bk.PU, Act.put])
  refine tkH 4 (v := ?_) rfl (by kernel_rfl) (fun _ _ _ h => h) (by rfl) ?hy hH ?_
  case hy => (intro w9_ hS9; have T9 := (HKI.out.next hS9).cell; clear hS9; go_simp; try with_reducible rfl)
  (try simp only [Bk.PU, Act.put])
  refine tkH 6 (v := ?_) rfl (by kernel_rfl) (fun _ _ _ h => h) (by rfl) ?hy hH ?_
  case hy => (intro w9_ hS9; clear hS9; go_simp; try with_reducible rfl)
  (try simp only [Bk.PU, Act.put])
  refine tkH 7 (v := ?_) rfl (by kernel_rfl) (fun _ _ _ h => h) (by rfl) ?hy hH ?_
  case hy => (intro w9_ hS9; clear hS9; go_simp; try with_reducible rfl)
  (try simp only [Bk.PU, Act.put])
  refine wpAnyH_take (i := 8) (v := _) rfl (by kernel_rfl) (by kernel_rfl) (by kernel_rfl) (fun _ _ _ h => h) (Or.inl ⟨by rfl, yields_load 30 (x := .tmp 493) rfl rfl (fun W hW => load_mach (H1.out.next hW).rd)⟩) hH ?_
  (try simp only [Bk.PU, Act.put])
  refine tkH 9 (v := ?_) rfl (by kernel_rfl) (fun _ _ _ h => h) (by rfl) ?hy hH ?_
  case hy => (intro w9_ hS9; clear hS9; go_simp; try with_reducible rfl)
  (try simp only [Bk.PU, Act.put])
  refine tkH 10 (v := ?_) rfl (by kernel_rfl) (fun _ _ _ h => h) (by rfl) ?hy hH ?_
  case hy => (intro w9_ hS9; have T9 := (HKI.out.next hS9).cell; clear hS9; go_simp; try with_reducible rfl)
  (try simp only [Bk.PU, Act.put])
  refine wpAnyH_ready (rs := [5]) (by kernel_rfl) (by simp) ?_
  refine AllReadyH.cons rfl (fun K hK => ?_) (AllReadyH.nil)
  go_simp
  refine (c_rstackIn (H1.out.next hH).rd.mls x x0 x1 HB.out.s0 HB.out.s1 fa HFa.out HLa.out).mono ?_
  rintro e w9 ⟨rfl, hb2⟩
  replace hH := hH.next hb2
  clear hb2
  refine hK.out _ _ hH (fun _ => ?_)
  clear hK
  (try simp only [Bk.PU, Act.put])
  refine wpAnyH_ready (rs := [11]) (by kernel_rfl) (by simp) ?_
  refine AllReadyH.cons rfl (fun K hK => ?_) (AllReadyH.nil)
  go_simp
  refine (c_rstackIn (H1.out.next hH).rd.mls y y0 y1 HB.out.s0 HB.out.s1 fb HFb.out HLb.out).mono ?_
  rintro e w2 ⟨rfl, hb2⟩
  replace hH := hH.next hb2
  clear hb2
  refine hK.out _ _ hH (fun _ => ?_)
  clear hK
  (try simp only [Bk.PU, Act.put])
  refine tkH 12 (v := ?_) rfl (by kernel_rfl) (fun _ _ _ h => h) (by rfl) ?hy hH ?_
  case hy => (intro w9_ hS9; clear hS9; go_simp; try with_reducible rfl)
  (try simp only [Bk.PU, Act.put])
  refine tkH 13 (v := ?_) rfl (by kernel_rfl) (fun _ _ _ h => h) (by rfl) ?hy hH ?_
  case hy => (intro w9_ hS9; clear hS9; go_simp; try with_reducible rfl)
  (try simp only [Bk.PU, Act.put])
  refine wpAnyH_done (by kernel_rfl) ?_ _
  have hB2 : Below w1.heap.size w1 w2 := hH
  have H2 := Lib.hid (H1.out.next hB2)
  have hBw2 : Below w.heap.size w w2 := hbw.next hB2
  clear TI zI FI
  obtain ⟨n, cap, rfl, hn, Aa, ca, ea, _, _, _, sa⟩ := H2.out.sv fa HLa.out
  obtain ⟨n', cap', e', _, Ab, cb, eb, _, _, _, sb⟩ := H2.out.sv fb HLb.out
  have e19 := H2.out.c19
  obtain ⟨_, _, _, _, zz⟩ := H2.out.s.form (by rw [H2.out.l.1.1]; have := HLa.out; omega)
  have za := zz fa
  have zb := zz fb
  have HSa := Lib.hid sa; have HSb := Lib.hid sb
  have i1 : (0 : Int) ≤ (fa : Int) := by omega
  have i2 : (fa : Int) < (n : Int) := by have := HLa.out; omega
  have i3 : (0 : Int) ≤ (fb : Int) := by omega
  have i4 : (fb : Int) < (n : Int) := by have := HLb.out; omega
  have n6 : ¬ (fa : Int) < 0 := by omega
  have n7 : ¬ (fb : Int) < 0 := by omega
  dsimp only at *
  clear e' zz sa sb hn
  go_wp2_with fail
  go_quiet (fail)
  go_upto_region 73 with fail
  refine wp_nameY ?_
  intro w3 hw3
  have H3 := Lib.hid (show MOn w3 ⟨b, tt, pre, post, off, gm, gs, fx⟩ _ _ _ _ _ _ _ from by rw [hw3]; exact H2.out.heap rfl)
  have q19 : w3.cell? ⟨b, off + 19, none⟩ = some (.slice (some ⟨gs, 0, none⟩) sv.length cap) := by rw [hw3]; exact e19
  have qa : w3.cell? ⟨gs, fa, none⟩ = some (.slice Aa (M.stk fa).length ca) := by rw [hw3]; exact ea
  have qb : w3.cell? ⟨gs, fb, none⟩ = some (.slice Ab (M.stk fb).length cb) := by rw [hw3]; exact eb
  have ra : w3.frozen? ⟨gs, fa, none⟩ = false := by rw [hw3]; exact za
  have rb : w3.frozen? ⟨gs, fb, none⟩ = false := by rw [hw3]; exact zb
  have HF3 : Hid (Fr (Pl.O ⟨b, tt, pre, post, off, gm, gs, fx⟩) w w3) := Lib.hid (by rw [hw3]; exact (Fr.of hBw2).drewN _)
  have hgs : b ≠ gs := Ne.symm (H3.out.as_ (by have := HLa.out; omega))
  obtain ⟨vz, hvz⟩ := cell?_setCell_some (w := w3) (p := ⟨gs, fa, none⟩) (x := .slice Ab (M.stk fb).length cb) (q := ⟨gs, fb, none⟩) (v := .slice Ab (M.stk fb).length cb) qb
  clear hw3 e19 ea eb za zb H1 H2 hB2 hBw2 hbw HKI hH
  go_wp2_with fail
  go_ret
  exact ⟨rfl, H3.out.mat, by have HF := HF3.out; repeat' (first | with_reducible (first | assumption | apply Fr.refl | apply Fr.drew | apply Fr.drewN | apply Fr.alloc | apply Fr.set) | exact .inl rfl | exact .inr (.inl rfl) | exact .inr (.inr rfl) | (apply Fr.of; assumption))⟩
end Go.Proofs.YteocbllbljeajaaDoor

/- straight: swap of stacks, more. -/
set_option maxRecDepth 100000
set_option maxHeartbeats 8000000
set_option maxRecDepth 100000
set_option linter.unusedVariables false
set_option linter.unusedSimpArgs false
namespace Go.Proofs.YteocbllbljeajaaDoor
open Go.RowKit Bk
variable {w : World} {D : Nat → Prop} {P : Pl} {M : Mach} {vm vs vc vi vo : Value} {sv : List Value}
theorem rs_16_f2 (h : MOn w P M vm vs vc vi vo sv) (hB : MBd M) (x y : Int) (x0 : 0 ≤ x) (x1 : x ≤ 16384) (y0 : 0 ≤ y) (y1 : y ≤ 16384) (c d : Int) (fa fb : Nat) (ha : find M x = fa) (hla : fa < M.s.length) (hb : find M y = fb) (hlb : fb < M.s.length) (c1 : fa ≠ 0) (c2 : ¬ 1000 < (M.stk fb).length) (c3 : fb ≠ 0) (c4 : 1000 < (M.stk fa).length) :
    SC w P (16) (x) (y) (c) (d) ((5, M)) := by
  unfold SC
  have HB := Lib.hid hB
  have HFa := Lib.hid ha; have HFb := Lib.hid hb; have HLa := Lib.hid hla; have HLb := Lib.hid hlb
  have c1' : ((fa : Int) != 0) = true := by simp [c1]
  have c2' : decide (1000 < ((M.stk fb).length : Int)) = false := by simp; omega
  have c3' : ((fb : Int) != 0) = true := by simp [c3]
  have c4' : decide (1000 < ((M.stk fa).length : Int)) = true := by simp; omega
  clear c1 c2 c3 c4
  clear ha hb hla hlb
  have hgm0 := h.gm; have hgs0 := h.gs
  obtain ⟨w1, hw1, h1, hbw, KI, hlt, hlt0, hne0, hne⟩ := h.al 42 #[.int .u8 (16), .int .i64 (x), .int .i64 (y), .int .i64 (c), .int .i64 (d)]; have H1 := Lib.hid h1; have HKI := Lib.hid KI; obtain ⟨zI, TI, FI⟩ := KI.open_; obtain ⟨b, tt, pre, post, off, gm, gs, fx⟩ := P; dsimp only at *; clear h h1 KI hB
  go_enter Tryd.func35, Tryd.ntmps35
  go_wp2_with fail
  rw [← hw1]
  clear hw1
  refine wp_region_held_drew (S := fun W => Below w1.heap.size w1 W) (by kernel_rfl) ((Below.refl _ _).drew) (fun hH => ?_)
  refine tkH 0 (v := ?_) rfl (by kernel_rfl) (fun _ _ _ h => h) (by rfl) ?hy hH ?_
  case hy => (intro w9_ hS9; clear hS9; go_simp; try with_reducible rfl)
  (try simp only [Bk.PU, Act.put])
  refine tkH 1 (v := ?_) rfl (by kernel_rfl) (fun _ _ _ h => h) (by rfl) ?hy hH ?_
  case hy => (intro w9_ hS9; clear hS9; go_simp; try with_reducible rfl)
  (try simp only [Bk.PU, Act.put])
  refine wpAnyH_take (i := 2) (v := _) rfl (by kernel_rfl) (by kernel_rfl) (by kernel_rfl) (fun _ _ _ h => h) (Or.inl ⟨by rfl, yields_load 30 (x := .tmp 487) rfl rfl (fun W hW => load_mach (H1.out.next hW).rd)⟩) hH ?_
  (try simp only [Bk.PU, Act.put])
  refine tkH 3 (v := ?_) rfl (by kernel_rfl) (fun _ _ _ h => h) (by rfl) ?hy hH ?_
  case hy => (intro w9_ hS9; clear hS9; go_simp; try with_reducible rfl)
  (try simp only [Bk.PU, Act.put])
  refine tkH 4 (v := ?_) rfl (by kernel_rfl) (fun _ _ _ h => h) (by rfl) ?hy hH ?_
  case hy => (intro w9_ hS9; have T9 := (HKI.out.next hS9).cell; clear hS9; go_simp; try with_reducible rfl)
  (try simp only [Bk.PU, Act.put])
  refine tkH 6 (v := ?_) rfl (by kernel_rfl) (fun _ _ _ h => h) (by rfl) ?hy hH ?_
  case hy => (intro w9_ hS9; clear hS9; go_simp; try with_reducible rfl)
  (try simp only [Bk.PU, Act.put])
  refine tkH 7 (v := ?_) rfl (by kernel_rfl) (fun _ _ _ h => h) (by rfl) ?hy hH ?_
  case hy => (intro w9_ hS9; clear hS9; go_simp; try with_reducible rfl)
  (try simp only [Bk.PU, Act.put])
  refine wpAnyH_take (i := 8) (v := _) rfl (by kernel_rfl) (by kernel_rfl) (by kernel_rfl) (fun _ _ _ h => h) (Or.inl ⟨by rfl, yields_load 30 (x := .tmp 493) rfl rfl (fun W hW => load_mach (H1.out.next hW).rd)⟩) hH ?_
  (try simp only [Bk.PU, Act.put])
  refine tkH 9 (v := ?_) rfl (by kernel_rfl) (fun _ _ _ h => h) (by rfl) ?hy hH ?_
  case hy => (intro w9_ hS9; clear hS9; go_simp; try with_reducible rfl)
  (try simp only [Bk.PU, Act.put])
  refine tkH 10 (v := ?_) rfl (by kernel_rfl) (fun _ _ _ h => h) (by rfl) ?hy hH ?_
  case hy => (intro w9_ hS9; have T9 := (HKI.out.next hS9).cell; clear hS9; go_simp; try with_reducible rfl)
  (try simp only [Bk.PU, Act.put])
  refine wpAnyH_ready (rs := [5]) (by kernel_rfl) (by simp) ?_
  refine AllReadyH.cons rfl (fun K hK => ?_) (AllReadyH.nil)
  go_simp
  refine (c_rstackIn (H1.out.next hH).rd.mls x x0 x1 HB.out.s0 HB.out.s1 fa HFa.out HLa.out).mono ?_
  rintro e w9 ⟨rfl, hb2⟩
  replace hH := hH.next hb2
  clear hb2
  refine hK.out _ _ hH (fun _ => ?_)
  clear hK
  (try simp only [Bk.PU, Act.put])
  refine wpAnyH_ready (rs := [11]) (by kernel_rfl) (by simp) ?_
  refine AllReadyH.cons rfl (fun K hK => ?_) (AllReadyH.nil)
  go_simp
  refine (c_rstackIn (H1.out.next hH).rd.mls y y0 y1 HB.out.s0 HB.out.s1 fb HFb.out HLb.out).mono ?_
  rintro e w2 ⟨rfl, hb2⟩
  replace hH := hH.next hb2
  clear hb2
  refine hK.out _ _ hH (fun _ => ?_)
  clear hK
  (try simp only [Bk.PU, Act.put])
  refine tkH 12 (v := ?_) rfl (by kernel_rfl) (fun _ _ _ h => h) (by rfl) ?hy hH ?_
  case hy => (intro w9_ hS9; clear hS9; go_simp; try with_reducible rfl)
  (try simp only [Bk.PU, Act.put])
  refine tkH 13 (v := ?_) rfl (by kernel_rfl) (fun _ _ _ h => h) (by rfl) ?hy hH ?_
  case hy => (intro w9_ hS9; clear hS9; go_simp; try with_reducible rfl)
  (try simp only [Bk.PU, Act.put])
  refine wpAnyH_done (by kernel_rfl) ?_ _
  have hB2 : Below w1.heap.size w1 w2 := hH
  have H2 := Lib.hid (H1.out.next hB2)
  have hBw2 : Below w.heap.size w w2 := hbw.next hB2
  clear TI zI FI
  obtain ⟨n, cap, rfl, hn, Aa, ca, ea, _, _, _, sa⟩ := H2.out.sv fa HLa.out
  obtain ⟨n', cap', e', _, Ab, cb, eb, _, _, _, sb⟩ := H2.out.sv fb HLb.out
  have e19 := H2.out.c19
  obtain ⟨_, _, _, _, zz⟩ := H2.out.s.form (by rw [H2.out.l.1.1]; have := HLa.out; omega)
  have za := zz fa
  have zb := zz fb
  have HSa := Lib.hid sa; have HSb := Lib.hid sb
  have i1 : (0 : Int) ≤ (fa : Int) := by omega
  have i2 : (fa : Int) < (n : Int) := by have := HLa.out; omega
  have i3 : (0 : Int) ≤ (fb : Int) := by omega
  have i4 : (fb : Int) < (n : Int) := by have := HLb.out; omega
  have n6 : ¬ (fa : Int) < 0 := by omega
  have n7 : ¬ (fb : Int) < 0 := by omega
  dsimp only at *
  clear e' zz sa sb hn
  go_wp2_with fail
  go_quiet (fail)
  go_upto_region 73 with fail
  refine wp_nameY ?_
  intro w3 hw3
  have H3 := Lib.hid (show MOn w3 ⟨b, tt, pre, post, off, gm, gs, fx⟩ _ _ _ _ _ _ _ from by rw [hw3]; exact H2.out.heap rfl)
  have q19 : w3.cell? ⟨b, off + 19, none⟩ = some (.slice (some ⟨gs, 0, none⟩) sv.length cap) := by rw [hw3]; exact e19
  have qa : w3.cell? ⟨gs, fa, none⟩ = some (.slice Aa (M.stk fa).length ca) := by rw [hw3]; exact ea
  have qb : w3.cell? ⟨gs, fb, none⟩ = some (.slice Ab (M.stk fb).length cb) := by rw [hw3]; exact eb
  have ra : w3.frozen? ⟨gs, fa, none⟩ = false := by rw [hw3]; exact za
  have rb : w3.frozen? ⟨gs, fb, none⟩ = false := by rw [hw3]; exact zb
  have HF3 : Hid (Fr (Pl.O ⟨b, tt, pre, post, off, gm, gs, fx⟩) w w3) := Lib.hid (by rw [hw3]; exact (Fr.of hBw2).drewN _)
  have hgs : b ≠ gs := Ne.symm (H3.out.as_ (by have := HLa.out; omega))
  obtain ⟨vz, hvz⟩ := cell?_setCell_some (w := w3) (p := ⟨gs, fa, none⟩) (x := .slice Ab (M.stk fb).length cb) (q := ⟨gs, fb, none⟩) (v := .slice Ab (M.stk fb).length cb) qb
  clear hw3 e19 ea eb za zb H1 H2 hB2 hBw2 hbw HKI hH
  go_wp2_with fail
  go_ret
  exact ⟨rfl, H3.out.mat, by have HF := HF3.out; repeat' (first | with_reducible (first | assumption | apply Fr.refl | apply Fr.drew | apply Fr.drewN | apply Fr.alloc | apply Fr.set) | exact .inl rfl | exact .inr (.inl rfl) | exact .inr (.inr rfl) | (apply Fr.of; assumption))⟩
theorem rs_16_f3 (h : MOn w P M vm vs vc vi vo sv) (hB : MBd M) (x y : Int) (x0 : 0 ≤ x) (x1 : x ≤ 16384) (y0 : 0 ≤ y) (y1 : y ≤ 16384) (c d : Int) (fa fb : Nat) (ha : find M x = fa) (hla : fa < M.s.length) (hb : find M y = fb) (hlb : fb < M.s.length) (c1 : fa = 0) (c3 : fb ≠ 0) (c4 : 1000 < (M.stk fa).length) :
    SC w P (16) (x) (y) (c) (d) ((5, M)) := by
  unfold SC
  have HB := Lib.hid hB
  have HFa := Lib.hid ha; have HFb := Lib.hid hb; have HLa := Lib.hid hla; have HLb := Lib.hid hlb
  have c1' : ((fa : Int) != 0) = false := by simp [c1]
  have c3' : ((fb : Int) != 0) = true := by simp [c3]
  have c4' : decide (1000 < ((M.stk fa).length : Int)) = true := by simp; omega
  clear c1 c3 c4
  clear ha hb hla hlb
  have hgm0 := h.gm; have hgs0 := h.gs
  obtain ⟨w1, hw1, h1, hbw, KI, hlt, hlt0, hne0, hne⟩ := h.al 42 #[.int .u8 (16), .int .i64 (x), .int .i64 (y), .int .i64 (c), .int .i64 (d)]; have H1 := Lib.hid h1; have HKI := Lib.hid KI; obtain ⟨zI, TI, FI⟩ := KI.open_; obtain ⟨b, tt, pre, post, off, gm, gs, fx⟩ := P; dsimp only at *; clear h h1 KI hB
  go_enter Tryd.func35, Tryd.ntmps35
  go_wp2_with fail
  rw [← hw1]
  clear hw1
  refine wp_region_held_drew (S := fun W => Below w1.heap.size w1 W) (by kernel_rfl) ((Below.refl _ _).drew) (fun hH => ?_)
  refine tkH 0 (v := ?_) rfl (by kernel_rfl) (fun _ _ _ h => h) (by rfl) ?hy hH ?_
  case hy => (intro w9_ hS9; clear hS9; go_simp; try with_reducible rfl)
  (try simp only [Bk.PU, Act.put])
  refine tkH 1 (v := ?_) rfl (by kernel_rfl) (fun _ _ _ h => h) (by rfl) ?hy hH ?_
  case hy => (intro w9_ hS9; clear hS9; go_simp; try with_reducible rfl)
  (try simp only [Bk.PU, Act.put])
  refine wpAnyH_take (i := 2) (v := _) rfl (by kernel_rfl) (by kernel_rfl) (by kernel_rfl) (fun _ _ _ h => h) (Or.inl ⟨by rfl, yields_load 30 (x := .tmp 487) rfl rfl (fun W hW => load_mach (H1.out.next hW).rd)⟩) hH ?_
  (try simp only [Bk.PU, Act.put])
  refine tkH 3 (v := ?_) rfl (by kernel_rfl) (fun _ _ _ h => h) (by rfl) ?hy hH ?_
  case hy => (intro w9_ hS9; clear hS9; go_simp; try with_reducible rfl)
  (try simp only [Bk.PU, Act.put])
  refine tkH 4 (v := ?_) rfl (by kernel_rfl) (fun _ _ _ h => h) (by rfl) ?hy hH ?_
  case hy => (intro w9_ hS9; have T9 := (HKI.out.next hS9).cell; clear hS9; go_simp; try with_reducible rfl)
  (try simp only [Bk.PU, Act.put])
  refine tkH 6 (v := ?_) rfl (by kernel_rfl) (fun _ _ _ h => h) (by rfl) ?hy hH ?_
  case hy => (intro w9_ hS9; clear hS9; go_simp; try with_reducible rfl)
  (try simp only [Bk.PU, Act.put])
  refine tkH 7 (v := ?_) rfl (by kernel_rfl) (fun _ _ _ h => h) (by rfl) ?hy hH ?_
  case hy => (intro w9_ hS9; clear hS9; go_simp; try with_reducible rfl)
  (try simp only [Bk.PU, Act.put])
  refine wpAnyH_take (i := 8) (v := _) rfl (by kernel_rfl) (by kernel_rfl) (by kernel_rfl) (fun _ _ _ h => h) (Or.inl ⟨by rfl, yields_load 30 (x := .tmp 493) rfl rfl (fun W hW => load_mach (H1.out.next hW).rd)⟩) hH ?_
  (try simp only [Bk.PU, Act.put])
  refine tkH 9 (v := ?_) rfl (by kernel_rfl) (fun _ _ _ h => h) (by rfl) ?hy hH ?_
  case hy => (intro w9_ hS9; clear hS9; go_simp; try with_reducible rfl)
  (try simp only [Bk.PU, Act.put])
  refine tkH 10 (v := ?_) rfl (by kernel_rfl) (fun _ _ _ h => h) (by rfl) ?hy hH ?_
  case hy => (intro w9_ hS9; have T9 := (HKI.out.next hS9).cell; clear hS9; go_simp; try with_reducible rfl)
  (try simp only [Bk.PU, Act.put])
  refine wpAnyH_ready (rs := [5]) (by kernel_rfl) (by simp) ?_
  refine AllReadyH.cons rfl (fun K hK => ?_) (AllReadyH.nil)
  go_simp
  refine (c_rstackIn (H1.out.next hH).rd.mls x x0 x1 HB.out.s0 HB.out.s1 fa HFa.out HLa.out).mono ?_
  rintro e w9 ⟨rfl, hb2⟩
  replace hH := hH.next hb2
  clear hb2
  refine hK.out _ _ hH (fun _ => ?_)
  clear hK
  (try simp only [Bk.PU, Act.put])
  refine wpAnyH_ready (rs := [11]) (by kernel_rfl) (by simp) ?_
  refine AllReadyH.cons rfl (fun K hK => ?_) (AllReadyH.nil)
  go_simp
  refine (c_rstackIn (H1.out.next hH).rd.mls y y0 y1 HB.out.s0 HB.out.s1 fb HFb.out HLb.out).mono ?_
  rintro e w2 ⟨rfl, hb2⟩
  replace hH := hH.next hb2
  clear hb2
  refine hK.out _ _ hH (fun _ => ?_)
  clear hK
  (try simp only [Bk.PU, Act.put])
  refine tkH 12 (v := ?_) rfl (by kernel_rfl) (fun _ _ _ h => h) (by rfl) ?hy hH ?_
  case hy => (intro w9_ hS9; clear hS9; go_simp; try with_reducible rfl)
  (try simp only [Bk.PU, Act.put])
  refine tkH 13 (v := ?_) rfl (by kernel_rfl) (fun _ _ _ h => h) (by rfl) ?hy hH ?_
  case hy => (intro w9_ hS9; clear hS9; go_simp; try with_reducible rfl)
  (try simp only [Bk.PU, Act.put])
  refine wpAnyH_done (by kernel_rfl) ?_ _
  have hB2 : Below w1.heap.size w1 w2 := hH
  have H2 := Lib.hid (H1.out.next hB2)
  have hBw2 : Below w.heap.size w w2 := hbw.next hB2
  clear TI zI FI
  obtain ⟨n, cap, rfl, hn, Aa, ca, ea, _, _, _, sa⟩ := H2.out.sv fa HLa.out
  obtain ⟨n', cap', e', _, Ab, cb, eb, _, _, _, sb⟩ := H2.out.sv fb HLb.out
  have e19 := H2.out.c19
  obtain ⟨_, _, _, _, zz⟩ := H2.out.s.form (by rw [H2.out.l.1.1]; have := HLa.out; omega)
  have za := zz fa
  have zb := zz fb
  have HSa := Lib.hid sa; have HSb := Lib.hid sb
  have i1 : (0 : Int) ≤ (fa : Int) := by omega
  have i2 : (fa : Int) < (n : Int) := by have := HLa.out; omega
  have i3 : (0 : Int) ≤ (fb : Int) := by omega
  have i4 : (fb : Int) < (n : Int) := by have := HLb.out; omega
  have n6 : ¬ (fa : Int) < 0 := by omega
  have n7 : ¬ (fb : Int) < 0 := by omega
  dsimp only at *
  clear e' zz sa sb hn
  go_wp2_with fail
  go_quiet (fail)
  go_upto_region 73 with fail
  refine wp_nameY ?_
  intro w3 hw3
  have H3 := Lib.hid (show MOn w3 ⟨b, tt, pre, post, off, gm, gs, fx⟩ _ _ _ _ _ _ _ from by rw [hw3]; exact H2.out.heap rfl)
  have q19 : w3.cell? ⟨b, off + 19, none⟩ = some (.slice (some ⟨gs, 0, none⟩) sv.length cap) := by rw [hw3]; exact e19
  have qa : w3.cell? ⟨gs, fa, none⟩ = some (.slice Aa (M.stk fa).length ca) := by rw [hw3]; exact ea
  have qb : w3.cell? ⟨gs, fb, none⟩ = some (.slice Ab (M.stk fb).length cb) := by rw [hw3]; exact eb
  have ra : w3.frozen? ⟨gs, fa, none⟩ = false := by rw [hw3]; exact za
  have rb : w3.frozen? ⟨gs, fb, none⟩ = false := by rw [hw3]; exact zb
  have HF3 : Hid (Fr (Pl.O ⟨b, tt, pre, post, off, gm, gs, fx⟩) w w3) := Lib.hid (by rw [hw3]; exact (Fr.of hBw2).drewN _)
  have hgs : b ≠ gs := Ne.symm (H3.out.as_ (by have := HLa.out; omega))
  obtain ⟨vz, hvz⟩ := cell?_setCell_some (w := w3) (p := ⟨gs, fa, none⟩) (x := .slice Ab (M.stk fb).length cb) (q := ⟨gs, fb, none⟩) (v := .slice Ab (M.stk fb).length cb) qb
  clear hw3 e19 ea eb za zb H1 H2 hB2 hBw2 hbw HKI hH
  go_wp2_with fail
  go_ret
  exact ⟨rfl, H3.out.mat, by have HF := HF3.out; repeat' (first | with_reducible (first | assumption | apply Fr.refl | apply Fr.drew | apply Fr.drewN | apply Fr.alloc | apply Fr.set) | exact .inl rfl | exact .inr (.inl rfl) | exact .inr (.inr rfl) | (apply Fr.of; assumption))⟩
theorem rs_16_s1 (h : MOn w P M vm vs vc vi vo sv) (hB : MBd M) (x y : Int) (x0 : 0 ≤ x) (x1 : x ≤ 16384) (y0 : 0 ≤ y) (y1 : y ≤ 16384) (c d : Int) (fa fb : Nat) (ha : find M x = fa) (hla : fa < M.s.length) (hb : find M y = fb) (hlb : fb < M.s.length) (c1 : fa ≠ 0) (c2 : ¬ 1000 < (M.stk fb).length) (c3 : fb = 0) :
    SC w P (16) (x) (y) (c) (d) ((0, { M with s := (M.s.set fa (M.stk fb)).set fb (M.stk fa) })) := by
  unfold SC
  have HB := Lib.hid hB
  have HFa := Lib.hid ha; have HFb := Lib.hid hb; have HLa := Lib.hid hla; have HLb := Lib.hid hlb
  have c1' : ((fa : Int) != 0) = true := by simp [c1]
  have c2' : decide (1000 < ((M.stk fb).length : Int)) = false := by simp; omega
  have c3' : ((fb : Int) != 0) = false := by simp [c3]
  clear c1 c2 c3
  clear ha hb hla hlb
  have hgm0 := h.gm; have hgs0 := h.gs
  obtain ⟨w1, hw1, h1, hbw, KI, hlt, hlt0, hne0, hne⟩ := h.al 42 #[.int .u8 (16), .int .i64 (x), .int .i64 (y), .int .i64 (c), .int .i64 (d)]; have H1 := Lib.hid h1; have HKI := Lib.hid KI; obtain ⟨zI, TI, FI⟩ := KI.open_; obtain ⟨b, tt, pre, post, off, gm, gs, fx⟩ := P; dsimp only at *; clear h h1 KI hB
  go_enter Tryd.func35, Tryd.ntmps35
  go_wp2_with fail
  rw [← hw1]
  clear hw1
  refine wp_region_held_drew (S := fun W => Below w1.heap.size w1 W) (by kernel_rfl) ((Below.refl _ _).drew) (fun hH => ?_)
  refine tkH 0 (v := ?_) rfl (by kernel_rfl) (fun _ _ _ h => h) (by rfl) ?hy hH ?_
  case hy => (intro w9_ hS9; clear hS9; go_simp; try with_reducible rfl)
  (try simp only [Bk.PU, Act.put])
  refine tkH 1 (v := ?_) rfl (by kernel_rfl) (fun _ _ _ h => h) (by rfl) ?hy hH ?_
  case hy => (intro w9_ hS9; clear hS9; go_simp; try with_reducible rfl)
  (try simp only [Bk.PU, Act.put])
  refine wpAnyH_take (i := 2) (v := _) rfl (by kernel_rfl) (by kernel_rfl) (by kernel_rfl) (fun _ _ _ h => h) (Or.inl ⟨by rfl, yields_load 30 (x := .tmp 487) rfl rfl (fun W hW => load_mach (H1.out.next hW).rd)⟩) hH ?_
  (try simp only [Bk.PU, Act.put])
  refine tkH 3 (v := ?_) rfl (by kernel_rfl) (fun _ _ _ h => h) (by rfl) ?hy hH ?_
  case hy => (intro w9_ hS9; clear hS9; go_simp; try with_reducible rfl)
  (try simp only [Bk.PU, Act.put])
  refine tkH 4 (v := ?_) rfl (by kernel_rfl) (fun _ _ _ h => h) (by rfl) ?hy hH ?_
  case hy => (intro w9_ hS9; have T9 := (HKI.out.next hS9).cell; clear hS9; go_simp; try with_reducible rfl)
  (try simp only [Bk.PU, Act.put])
  refine tkH 6 (v := ?_) rfl (by kernel_rfl) (fun _ _ _ h => h) (by rfl) ?hy hH ?_
  case hy => (intro w9_ hS9; clear hS9; go_simp; try with_reducible rfl)
  (try simp only [Bk.PU, Act.put])
  refine tkH 7 (v := ?_) rfl (by kernel_rfl) (fun _ _ _ h => h) (by rfl) ?hy hH ?_
  case hy => (intro w9_ hS9; clear hS9; go_simp; try with_reducible rfl)
  (try simp only [Bk.PU, Act.put])
  refine wpAnyH_take (i := 8) (v := _) rfl (by kernel_rfl) (by kernel_rfl) (by kernel_rfl) (fun _ _ _ h => h) (Or.inl ⟨by rfl, yields_load 30 (x := .tmp 493) rfl rfl (fun W hW => load_mach (H1.out.next hW).rd)⟩) hH ?_
  (try simp only [Bk.PU, Act.put])
  refine tkH 9 (v := ?_) rfl (by kernel_rfl) (fun _ _ _ h => h) (by rfl) ?hy hH ?_
  case hy => (intro w9_ hS9; clear hS9; go_simp; try with_reducible rfl)
  (try simp only [Bk.PU, Act.put])
  refine tkH 10 (v := ?_) rfl (by kernel_rfl) (fun _ _ _ h => h) (by rfl) ?hy hH ?_
  case hy => (intro w9_ hS9; have T9 := (HKI.out.next hS9).cell; clear hS9; go_simp; try with_reducible rfl)
  (try simp only [Bk.PU, Act.put])
  refine wpAnyH_ready (rs := [5]) (by kernel_rfl) (by simp) ?_
  refine AllReadyH.cons rfl (fun K hK => ?_) (AllReadyH.nil)
  go_simp
  refine (c_rstackIn (H1.out.next hH).rd.mls x x0 x1 HB.out.s0 HB.out.s1 fa HFa.out HLa.out).mono ?_
  rintro e w9 ⟨rfl, hb2⟩
  replace hH := hH.next hb2
  clear hb2
  refine hK.out _ _ hH (fun _ => ?_)
  clear hK
  (try simp only [Bk.PU, Act.put])
  refine wpAnyH_ready (rs := [11]) (by kernel_rfl) (by simp) ?_
  refine AllReadyH.cons rfl (fun K hK => ?_) (AllReadyH.nil)
  go_simp
  refine (c_rstackIn (H1.out.next hH).rd.mls y y0 y1 HB.out.s0 HB.out.s1 fb HFb.out HLb.out).mono ?_
  rintro e w2 ⟨rfl, hb2⟩
  replace hH := hH.next hb2
  clear hb2
  refine hK.out _ _ hH (fun _ => ?_)
  clear hK
  (try simp only [Bk.PU, Act.put])
  refine tkH 12 (v := ?_) rfl (by kernel_rfl) (fun _ _ _ h => h) (by rfl) ?hy hH ?_
  case hy => (intro w9_ hS9; clear hS9; go_simp; try with_reducible rfl)
  (try simp only [Bk.PU, Act.put])
  refine tkH 13 (v := ?_) rfl (by kernel_rfl) (fun _ _ _ h => h) (by rfl) ?hy hH ?_
  case hy => (intro w9_ hS9; clear hS9; go_simp; try with_reducible rfl)
  (try simp only [Bk.PU, Act.put])
  refine wpAnyH_done (by kernel_rfl) ?_ _
  have hB2 : Below w1.heap.size w1 w2 := hH
  have H2 := Lib.hid (H1.out.next hB2)
  have hBw2 : Below w.heap.size w w2 := hbw.next hB2
  clear TI zI FI
  obtain ⟨n, cap, rfl, hn, Aa, ca, ea, _, _, _, sa⟩ := H2.out.sv fa HLa.out
  obtain ⟨n', cap', e', _, Ab, cb, eb, _, _, _, sb⟩ := H2.out.sv fb HLb.out
  have e19 := H2.out.c19
  obtain ⟨_, _, _, _, zz⟩ := H2.out.s.form (by rw [H2.out.l.1.1]; have := HLa.out; omega)
  have za := zz fa
  have zb := zz fb
  have HSa := Lib.hid sa; have HSb := Lib.hid sb
  have i1 : (0 : Int) ≤ (fa : Int) := by omega
  have i2 : (fa : Int) < (n : Int) := by have := HLa.out; omega
  have i3 : (0 : Int) ≤ (fb : Int) := by omega
  have i4 : (fb : Int) < (n : Int) := by have := HLb.out; omega
  have n6 : ¬ (fa : Int) < 0 := by omega
  have n7 : ¬ (fb : Int) < 0 := by omega
  dsimp only at *
  clear e' zz sa sb hn
  go_wp2_with fail
  go_quiet (fail)
  go_upto_region 73 with fail
  refine wp_nameY ?_
  intro w3 hw3
  have H3 := Lib.hid (show MOn w3 ⟨b, tt, pre, post, off, gm, gs, fx⟩ _ _ _ _ _ _ _ from by rw [hw3]; exact H2.out.heap rfl)
  have q19 : w3.cell? ⟨b, off + 19, none⟩ = some (.slice (some ⟨gs, 0, none⟩) sv.length cap) := by rw [hw3]; exact e19
  have qa : w3.cell? ⟨gs, fa, none⟩ = some (.slice Aa (M.stk fa).length ca) := by rw [hw3]; exact ea
  have qb : w3.cell? ⟨gs, fb, none⟩ = some (.slice Ab (M.stk fb).length cb) := by rw [hw3]; exact eb
  have ra : w3.frozen? ⟨gs, fa, none⟩ = false := by rw [hw3]; exact za
  have rb : w3.frozen? ⟨gs, fb, none⟩ = false := by rw [hw3]; exact zb
  have HF3 : Hid (Fr (Pl.O ⟨b, tt, pre, post, off, gm, gs, fx⟩) w w3) := Lib.hid (by rw [hw3]; exact (Fr.of hBw2).drewN _)
  have hgs : b ≠ gs := Ne.symm (H3.out.as_ (by have := HLa.out; omega))
  obtain ⟨vz, hvz⟩ := cell?_setCell_some (w := w3) (p := ⟨gs, fa, none⟩) (x := .slice Ab (M.stk fb).length cb) (q := ⟨gs, fb, none⟩) (v := .slice Ab (M.stk fb).length cb) qb
  clear hw3 e19 ea eb za zb H1 H2 hB2 hBw2 hbw HKI hH
  go_wp2_with fail
  go_ret
  exact ⟨rfl, (H3.out.swapStk fa fb HLa.out HLb.out HSa.out HSb.out).matE rfl, by have HF := HF3.out; repeat' (first | with_reducible (first | assumption | apply Fr.refl | apply Fr.drew | apply Fr.drewN | apply Fr.alloc | apply Fr.set) | exact .inl rfl | exact .inr (.inl rfl) | exact .inr (.inr rfl) | (apply Fr.of; assumption))⟩
theorem rs_16_s2 (h : MOn w P M vm vs vc vi vo sv) (hB : MBd M) (x y : Int) (x0 : 0 ≤ x) (x1 : x ≤ 16384) (y0 : 0 ≤ y) (y1 : y ≤ 16384) (c d : Int) (fa fb : Nat) (ha : find M x = fa) (hla : fa < M.s.length) (hb : find M y = fb) (hlb : fb < M.s.length) (c1 : fa ≠ 0) (c2 : ¬ 1000 < (M.stk fb).length) (c3 : fb ≠ 0) (c4 : ¬ 1000 < (M.stk fa).length) :
    SC w P (16) (x) (y) (c) (d) ((0, { M with s := (M.s.set fa (M.stk fb)).set fb (M.stk fa) })) := by
  unfold SC
  have HB := Lib.hid hB
  have HFa := Lib.hid ha; have HFb := Lib.hid hb; have HLa := Lib.hid hla; have HLb := Lib.hid hlb
  have c1' : ((fa : Int) != 0) = true := by simp [c1]
  have c2' : decide (1000 < ((M.stk fb).length : Int)) = false := by simp; omega
  have c3' : ((fb : Int) != 0) = true := by simp [c3]
  have c4' : decide (1000 < ((M.stk fa).length : Int)) = false := by simp; omega
  clear c1 c2 c3 c4
  clear ha hb hla hlb
  have hgm0 := h.gm; have hgs0 := h.gs
  obtain ⟨w1, hw1, h1, hbw, KI, hlt, hlt0, hne0, hne⟩ := h.al 42 #[.int .u8 (16), .int .i64 (x), .int .i64 (y), .int .i64 (c), .int .i64 (d)]; have H1 := Lib.hid h1; have HKI := Lib.hid KI; obtain ⟨zI, TI, FI⟩ := KI.open_; obtain ⟨b, tt, pre, post, off, gm, gs, fx⟩ := P; dsimp only at *; clear h h1 KI hB
  go_enter Tryd.func35, Tryd.ntmps35
  go_wp2_with fail
  rw [← hw1]
  clear hw1
  refine wp_region_held_drew (S := fun W => Below w1.heap.size w1 W) (by kernel_rfl) ((Below.refl _ _).drew) (fun hH => ?_)
  refine tkH 0 (v := ?_) rfl (by kernel_rfl) (fun _ _ _ h => h) (by rfl) ?hy hH ?_
  case hy => (intro w9_ hS9; clear hS9; go_simp; try with_reducible rfl)
  (try simp only [Bk.PU, Act.put])
  refine tkH 1 (v := ?_) rfl (by kernel_rfl) (fun _ _ _ h => h) (by rfl) ?hy hH ?_
  case hy => (intro w9_ hS9; clear hS9; go_simp; try with_reducible rfl)
  (try simp only [Bk.PU, Act.put])
  refine wpAnyH_take (i := 2) (v := _) rfl (by kernel_rfl) (by kernel_rfl) (by kernel_rfl) (fun _ _ _ h => h) (Or.inl ⟨by rfl, yields_load 30 (x := .tmp 487) rfl rfl (fun W hW => load_mach (H1.out.next hW).rd)⟩) hH ?_
  (try simp only [Bk.PU, Act.put])
  refine tkH 3 (v := ?_) rfl (by kernel_rfl) (fun _ _ _ h => h) (by rfl) ?hy hH ?_
  case hy => (intro w9_ hS9; clear hS9; go_simp; try with_reducible rfl)
  (try simp only [Bk.PU, Act.put])
  refine tkH 4 (v := ?_) rfl (by kernel_rfl) (fun _ _ _ h => h) (by rfl) ?hy hH ?_
  case hy => (intro w9_ hS9; have T9 := (HKI.out.next hS9).cell; clear hS9; go_simp; try with_reducible rfl)
  (try simp only [Bk.PU, Act.put])
  refine tkH 6 (v := ?_) rfl (by kernel_rfl) (fun _ _ _ h => h) (by rfl) ?hy hH ?_
  case hy => (intro w9_ hS9; clear hS9; go_simp; try with_reducible rfl)
  (try simp only [Bk.PU, Act.put])
  refine tkH 7 (v := ?_) rfl (by kernel_rfl) (fun _ _ _ h => h) (by rfl) ?hy hH ?_
  case hy => (intro w9_ hS9; clear hS9; go_simp; try with_reducible rfl)
  (try simp only [Bk.PU, Act.put])
  refine wpAnyH_take (i := 8) (v := _) rfl (by kernel_rfl) (by kernel_rfl) (by kernel_rfl) (fun _ _ _ h => h) (Or.inl ⟨by rfl, yields_load 30 (x := .tmp 493) rfl rfl (fun W hW => load_mach (H1.out.next hW).rd)⟩) hH ?_
  (try simp only [Bk.PU, Act.put])
  refine tkH 9 (v := ?_) rfl (by kernel_rfl) (fun _ _ _ h => h) (by rfl) ?hy hH ?_
  case hy => (intro w9_ hS9; clear hS9; go_simp; try with_reducible rfl)
  (try simp only [Bk.PU, Act.put])
  refine tkH 10 (v := ?_) rfl (by kernel_rfl) (fun _ _ _ h => h) (by rfl) ?hy hH ?_
  case hy => (intro w9_ hS9; have T9 := (HKI.out.next hS9).cell; clear hS9; go_simp; try with_reducible rfl)
  (try simp only [Bk.PU, Act.put])
  refine wpAnyH_ready (rs := [5]) (by kernel_rfl) (by simp) ?_
  refine AllReadyH.cons rfl (fun K hK => ?_) (AllReadyH.nil)
  go_simp
  refine (c_rstackIn (H1.out.next hH).rd.mls x x0 x1 HB.out.s0 HB.out.s1 fa HFa.out HLa.out).mono ?_
  rintro e w9 ⟨rfl, hb2⟩
  replace hH := hH.next hb2
  clear hb2
  refine hK.out _ _ hH (fun _ => ?_)
  clear hK
  (try simp only [Bk.PU, Act.put])
  refine wpAnyH_ready (rs := [11]) (by kernel_rfl) (by simp) ?_
  refine AllReadyH.cons rfl (fun K hK => ?_) (AllReadyH.nil)
  go_simp
  refine (c_rstackIn (H1.out.next hH).rd.mls y y0 y1 HB.out.s0 HB.out.s1 fb HFb.out HLb.out).mono ?_
  rintro e w2 ⟨rfl, hb2⟩
  replace hH := hH.next hb2
  clear hb2
  refine hK.out _ _ hH (fun _ => ?_)
  clear hK
  (try simp only [Bk.PU, Act.put])
  refine tkH 12 (v := ?_) rfl (by kernel_rfl) (fun _ _ _ h => h) (by rfl) ?hy hH ?_
  case hy => (intro w9_ hS9; clear hS9; go_simp; try with_reducible rfl)
  (try simp only [Bk.PU, Act.put])
  refine tkH 13 (v := ?_) rfl (by kernel_rfl) (fun _ _ _ h => h) (by rfl) ?hy hH ?_
  case hy => (intro w9_ hS9; clear hS9; go_simp; try with_reducible rfl)
  (try simp only [Bk.PU, Act.put])
  refine wpAnyH_done (by kernel_rfl) ?_ _
  have hB2 : Below w1.heap.size w1 w2 := hH
  have H2 := Lib.hid (H1.out.next hB2)
  have hBw2 : Below w.heap.size w w2 := hbw.next hB2
  clear TI zI FI
  obtain ⟨n, cap, rfl, hn, Aa, ca, ea, _, _, _, sa⟩ := H2.out.sv fa HLa.out
  obtain ⟨n', cap', e', _, Ab, cb, eb, _, _, _, sb⟩ := H2.out.sv fb HLb.out
  have e19 := H2.out.c19
  obtain ⟨_, _, _, _, zz⟩ := H2.out.s.form (by rw [H2.out.l.1.1]; have := HLa.out; omega)
  have za := zz fa
  have zb := zz fb
  have HSa := Lib.hid sa; have HSb := Lib.hid sb
  have i1 : (0 : Int) ≤ (fa : Int) := by omega
  have i2 : (fa : Int) < (n : Int) := by have := HLa.out; omega
  have i3 : (0 : Int) ≤ (fb : Int) := by omega
  have i4 : (fb : Int) < (n : Int) := by have := HLb.out; omega
  have n6 : ¬ (fa : Int) < 0 := by omega
  have n7 : ¬ (fb : Int) < 0 := by omega
  dsimp only at *
  clear e' zz sa sb hn
  go_wp2_with fail
  go_quiet (fail)
  go_upto_region 73 with fail
  refine wp_nameY ?_
  intro w3 hw3
  have H3 := Lib.hid (show MOn w3 ⟨b, tt, pre, post, off, gm, gs, fx⟩ _ _ _ _ _ _ _ from by rw [hw3]; exact H2.out.heap rfl)
  have q19 : w3.cell? ⟨b, off + 19, none⟩ = some (.slice (some ⟨gs, 0, none⟩) sv.length cap) := by rw [hw3]; exact e19
  have qa : w3.cell? ⟨gs, fa, none⟩ = some (.slice Aa (M.stk fa).length ca) := by rw [hw3]; exact ea
  have qb : w3.cell? ⟨gs, fb, none⟩ = some (.slice Ab (M.stk fb).length cb) := by rw [hw3]; exact eb
  have ra : w3.frozen? ⟨gs, fa, none⟩ = false := by rw [hw3]; exact za
  have rb : w3.frozen? ⟨gs, fb, none⟩ = false := by rw [hw3]; exact zb
  have HF3 : Hid (Fr (Pl.O ⟨b, tt, pre, post, off, gm, gs, fx⟩) w w3) := Lib.hid (by rw [hw3]; exact (Fr.of hBw2).drewN _)
  have hgs : b ≠ gs := Ne.symm (H3.out.as_ (by have := HLa.out; omega))
  obtain ⟨vz, hvz⟩ := cell?_setCell_some (w := w3) (p := ⟨gs, fa, none⟩) (x := .slice Ab (M.stk fb).length cb) (q := ⟨gs, fb, none⟩) (v := .slice Ab (M.stk fb).length cb) qb
  clear hw3 e19 ea eb za zb H1 H2 hB2 hBw2 hbw HKI hH
  go_wp2_with fail
  go_ret
  exact ⟨rfl, (H3.out.swapStk fa fb HLa.out HLb.out HSa.out HSb.out).matE rfl, by have HF := HF3.out; repeat' (first | with_reducible (first | assumption | apply Fr.refl | apply Fr.drew | apply Fr.drewN | apply Fr.alloc | apply Fr.set) | exact .inl rfl | exact .inr (.inl rfl) | exact .inr (.inr rfl) | (apply Fr.of; assumption))⟩
theorem rs_16_s3 (h : MOn w P M vm vs vc vi vo sv) (hB : MBd M) (x y : Int) (x0 : 0 ≤ x) (x1 : x ≤ 16384) (y0 : 0 ≤ y) (y1 : y ≤ 16384) (c d : Int) (fa fb : Nat) (ha : find M x = fa) (hla : fa < M.s.length) (hb : find M y = fb) (hlb : fb < M.s.length) (c1 : fa = 0) (c3 : fb = 0) :
    SC w P (16) (x) (y) (c) (d) ((0, { M with s := (M.s.set fa (M.stk fb)).set fb (M.stk fa) })) := by
  unfold SC
  have HB := Lib.hid hB
  have HFa := Lib.hid ha; have HFb := Lib.hid hb; have HLa := Lib.hid hla; have HLb := Lib.hid hlb
  have c1' : ((fa : Int) != 0) = false := by simp [c1]
  have c3' : ((fb : Int) != 0) = false := by simp [c3]
  clear c1 c3
  clear ha hb hla hlb
  have hgm0 := h.gm; have hgs0 := h.gs
  obtain ⟨w1, hw1, h1, hbw, KI, hlt, hlt0, hne0, hne⟩ := h.al 42 #[.int .u8 (16), .int .i64 (x), .int .i64 (y), .int .i64 (c), .int .i64 (d)]; have H1 := Lib.hid h1; have HKI := Lib.hid KI; obtain ⟨zI, TI, FI⟩ := KI.open_; obtain ⟨b, tt, pre, post, off, gm, gs, fx⟩ := P; dsimp only at *; clear h h1 KI hB
  go_enter Tryd.func35, Tryd.ntmps35
  go_wp2_with fail
  rw [← hw1]
  clear hw1
  refine wp_region_held_drew (S := fun W => Below w1.heap.size w1 W) (by kernel_rfl) ((Below.refl _ _).drew) (fun hH => ?_)
  refine tkH 0 (v := ?_) rfl (by kernel_rfl) (fun _ _ _ h => h) (by rfl) ?hy hH ?_
  case hy => (intro w9_ hS9; clear hS9; go_simp; try with_reducible rfl)
  (try simp only [Bk.PU, Act.put])
  refine tkH 1 (v := ?_) rfl (by kernel_rfl) (fun _ _ _ h => h) (by rfl) ?hy hH ?_
  case hy => (intro w9_ hS9; clear hS9; go_simp; try with_reducible rfl)
  (try simp only [Bk.PU, Act.put])
  refine wpAnyH_take (i := 2) (v := _) rfl (by kernel_rfl) (by kernel_rfl) (by kernel_rfl) (fun _ _ _ h => h) (Or.inl ⟨by rfl, yields_load 30 (x := .tmp 487) rfl rfl (fun W hW => load_mach (H1.out.next hW).rd)⟩) hH ?_
  (try simp only [Bk.PU, Act.put])
  refine tkH 3 (v := ?_) rfl (by kernel_rfl) (fun _ _ _ h => h) (by rfl) ?hy hH ?_
  case hy => (intro w9_ hS9; clear hS9; go_simp; try with_reducible rfl)
  (try simp only [Bk.PU, Act.put])
  refine tkH 4 (v := ?_) rfl (by kernel_rfl) (fun _ _ _ h => h) (by rfl) ?hy hH ?_
  case hy => (intro w9_ hS9; have T9 := (HKI.out.next hS9).cell; clear hS9; go_simp; try with_reducible rfl)
  (try simp only [Bk.PU, Act.put])
  refine tkH 6 (v := ?_) rfl (by kernel_rfl) (fun _ _ _ h => h) (by rfl) ?hy hH ?_
  case hy => (intro w9_ hS9; clear hS9; go_simp; try with_reducible rfl)
  (try simp only [Bk.PU, Act.put])
  refine tkH 7 (v := ?_) rfl (by kernel_rfl) (fun _ _ _ h => h) (by rfl) ?hy hH ?_
  case hy => (intro w9_ hS9; clear hS9; go_simp; try with_reducible rfl)
  (try simp only [Bk.PU, Act.put])
  refine wpAnyH_take (i := 8) (v := _) rfl (by kernel_rfl) (by kernel_rfl) (by kernel_rfl) (fun _ _ _ h => h) (Or.inl ⟨by rfl, yields_load 30 (x := .tmp 493) rfl rfl (fun W hW => load_mach (H1.out.next hW).rd)⟩) hH ?_
  (try simp only [Bk.PU, Act.put])
  refine tkH 9 (v := ?_) rfl (by kernel_rfl) (fun _ _ _ h => h) (by rfl) ?hy hH ?_
  case hy => (intro w9_ hS9; clear hS9; go_simp; try with_reducible rfl)
  (try simp only [Bk.PU, Act.put])
  refine tkH 10 (v := ?_) rfl (by kernel_rfl) (fun _ _ _ h => h) (by rfl) ?hy hH ?_
  case hy => (intro w9_ hS9; have T9 := (HKI.out.next hS9).cell; clear hS9; go_simp; try with_reducible rfl)
  (try simp only [Bk.PU, Act.put])
  refine wpAnyH_ready (rs := [5]) (by kernel_rfl) (by simp) ?_
  refine AllReadyH.cons rfl (fun K hK => ?_) (AllReadyH.nil)
  go_simp
  refine (c_rstackIn (H1.out.next hH).rd.mls x x0 x1 HB.out.s0 HB.out.s1 fa HFa.out HLa.out).mono ?_
  rintro e w9 ⟨rfl, hb2⟩
  replace hH := hH.next hb2
  clear hb2
  refine hK.out _ _ hH (fun _ => ?_)
  clear hK
  (try simp only [Bk.PU, Act.put])
  refine wpAnyH_ready (rs := [11]) (by kernel_rfl) (by simp) ?_
  refine AllReadyH.cons rfl (fun K hK => ?_) (AllReadyH.nil)
  go_simp
  refine (c_rstackIn (H1.out.next hH).rd.mls y y0 y1 HB.out.s0 HB.out.s1 fb HFb.out HLb.out).mono ?_
  rintro e w2 ⟨rfl, hb2⟩
  replace hH := hH.next hb2
  clear hb2
  refine hK.out _ _ hH (fun _ => ?_)
  clear hK
  (try simp only [Bk.PU, Act.put])
  refine tkH 12 (v := ?_) rfl (by kernel_rfl) (fun _ _ _ h => h) (by rfl) ?hy hH ?_
  case hy => (intro w9_ hS9; clear hS9; go_simp; try with_reducible rfl)
  (try simp only [Bk.PU, Act.put])
  refine tkH 13 (v := ?_) rfl (by kernel_rfl) (fun _ _ _ h => h) (by rfl) ?hy hH ?_
  case hy => (intro w9_ hS9; clear hS9; go_simp; try with_reducible rfl)
  (try simp only [Bk.PU, Act.put])
  refine wpAnyH_done (by kernel_rfl) ?_ _
  have hB2 : Below w1.heap.size w1 w2 := hH
  have H2 := Lib.hid (H1.out.next hB2)
  have hBw2 : Below w.heap.size w w2 := hbw.next hB2
  clear TI zI FI
  obtain ⟨n, cap, rfl, hn, Aa, ca, ea, _, _, _, sa⟩ := H2.out.sv fa HLa.out
  obtain ⟨n', cap', e', _, Ab, cb, eb, _, _, _, sb⟩ := H2.out.sv fb HLb.out
  have e19 := H2.out.c19
  obtain ⟨_, _, _, _, zz⟩ := H2.out.s.form (by rw [H2.out.l.1.1]; have := HLa.out; omega)
  have za := zz fa
  have zb := zz fb
  have HSa := Lib.hid sa; have HSb := Lib.hid sb
  have i1 : (0 : Int) ≤ (fa : Int) := by omega
  have i2 : (fa : Int) < (n : Int) := by have := HLa.out; omega
  have i3 : (0 : Int) ≤ (fb : Int) := by omega
  have i4 : (fb : Int) < (n : Int) := by have := HLb.out; omega
  have n6 : ¬ (fa : Int) < 0 := by omega
  have n7 : ¬ (fb : Int) < 0 := by omega
  dsimp only at *
  clear e' zz sa sb hn
  go_wp2_with fail
  go_quiet (fail)
  go_upto_region 73 with fail
  refine wp_nameY ?_
  intro w3 hw3
  have H3 := Lib.hid (show MOn w3 ⟨b, tt, pre, post, off, gm, gs, fx⟩ _ _ _ _ _ _ _ from by rw [hw3]; exact H2.out.heap rfl)
  have q19 : w3.cell? ⟨b, off + 19, none⟩ = some (.slice (some ⟨gs, 0, none⟩) sv.length cap) := by rw [hw3]; exact e19
  have qa : w3.cell? ⟨gs, fa, none⟩ = some (.slice Aa (M.stk fa).length ca) := by rw [hw3]; exact ea
  have qb : w3.cell? ⟨gs, fb, none⟩ = some (.slice Ab (M.stk fb).length cb) := by rw [hw3]; exact eb
  have ra : w3.frozen? ⟨gs, fa, none⟩ = false := by rw [hw3]; exact za
  have rb : w3.frozen? ⟨gs, fb, none⟩ = false := by rw [hw3]; exact zb
  have HF3 : Hid (Fr (Pl.O ⟨b, tt, pre, post, off, gm, gs, fx⟩) w w3) := Lib.hid (by rw [hw3]; exact (Fr.of hBw2).drewN _)
  have hgs : b ≠ gs := Ne.symm (H3.out.as_ (by have := HLa.out; omega))
  obtain ⟨vz, hvz⟩ := cell?_setCell_some (w := w3) (p := ⟨gs, fa, none⟩) (x := .slice Ab (M.stk fb).length cb) (q := ⟨gs, fb, none⟩) (v := .slice Ab (M.stk fb).length cb) qb
  clear hw3 e19 ea eb za zb H1 H2 hB2 hBw2 hbw HKI hH
  go_wp2_with fail
  go_ret
  exact ⟨rfl, (H3.out.swapStk fa fb HLa.out HLb.out HSa.out HSb.out).matE rfl, by have HF := HF3.out; repeat' (first | with_reducible (first | assumption | apply Fr.refl | apply Fr.drew | apply Fr.drewN | apply Fr.alloc | apply Fr.set) | exact .inl rfl | exact .inr (.inl rfl) | exact .inr (.inr rfl) | (apply Fr.of; assumption))⟩
theorem rs_16_s4 (h : MOn w P M vm vs vc vi vo sv) (hB : MBd M) (x y : Int) (x0 : 0 ≤ x) (x1 : x ≤ 16384) (y0 : 0 ≤ y) (y1 : y ≤ 16384) (c d : Int) (fa fb : Nat) (ha : find M x = fa) (hla : fa < M.s.length) (hb : find M y = fb) (hlb : fb < M.s.length) (c1 : fa = 0) (c3 : fb ≠ 0) (c4 : ¬ 1000 < (M.stk fa).length) :
    SC w P (16) (x) (y) (c) (d) ((0, { M with s := (M.s.set fa (M.stk fb)).set fb (M.stk fa) })) := by
  unfold SC
  have HB := Lib.hid hB
  have HFa := Lib.hid ha; have HFb := Lib.hid hb; have HLa := Lib.hid hla; have HLb := Lib.hid hlb
  have c1' : ((fa : Int) != 0) = false := by simp [c1]
  have c3' : ((fb : Int) != 0) = true := by simp [c3]
  have c4' : decide (1000 < ((M.stk fa).length : Int)) = false := by simp; omega
  clear c1 c3 c4
  clear ha hb hla hlb
  have hgm0 := h.gm; have hgs0 := h.gs
  obtain ⟨w1, hw1, h1, hbw, KI, hlt, hlt0, hne0, hne⟩ := h.al 42 #[.int .u8 (16), .int .i64 (x), .int .i64 (y), .int .i64 (c), .int .i64 (d)]; have H1 := Lib.hid h1; have HKI := Lib.hid KI; obtain ⟨zI, TI, FI⟩ := KI.open_; obtain ⟨b, tt, pre, post, off, gm, gs, fx⟩ := P; dsimp only at *; clear h h1 KI hB
  go_enter Tryd.func35, Tryd.ntmps35
  go_wp2_with fail
  rw [← hw1]
  clear hw1
  refine wp_region_held_drew (S := fun W => Below w1.heap.size w1 W) (by kernel_rfl) ((Below.refl _ _).drew) (fun hH => ?_)
  refine tkH 0 (v := ?_) rfl (by kernel_rfl) (fun _ _ _ h => h) (by rfl) ?hy hH ?_
  case hy => (intro w9_ hS9; clear hS9; go_simp; try with_reducible rfl)
  (try simp only [Bk.PU, Act.put])
  refine tkH 1 (v := ?_) rfl (by kernel_rfl) (fun _ _ _ h => h) (by rfl) ?hy hH ?_
  case hy => (intro w9_ hS9; clear hS9; go_simp; try with_reducible rfl)
  (try simp only [Bk.PU, Act.put])
  refine wpAnyH_take (i := 2) (v := _) rfl (by kernel_rfl) (by kernel_rfl) (by kernel_rfl) (fun _ _ _ h => h) (Or.inl ⟨by rfl, yields_load 30 (x := .tmp 487) rfl rfl (fun W hW => load_mach (H1.out.next hW).rd)⟩) hH ?_
  (try simp only [Bk.PU, Act.put])
  refine tkH 3 (v := ?_) rfl (by kernel_rfl) (fun _ _ _ h => h) (by rfl) ?hy hH ?_
  case hy => (intro w9_ hS9; clear hS9; go_simp; try with_reducible rfl)
  (try simp only [Bk.PU, Act.put])
  refine tkH 4 (v := ?_) rfl (by kernel_rfl) (fun _ _ _ h => h) (by rfl) ?hy hH ?_
  case hy => (intro w9_ hS9; have T9 := (HKI.out.next hS9).cell; clear hS9; go_simp; try with_reducible rfl)
  (try simp only [Bk.PU, Act.put])
  refine tkH 6 (v := ?_) rfl (by kernel_rfl) (fun _ _ _ h => h) (by rfl) ?hy hH ?_
  case hy => (intro w9_ hS9; clear hS9; go_simp; try with_reducible rfl)
  (try simp only [Bk.PU, Act.put])
  refine tkH 7 (v := ?_) rfl (by kernel_rfl) (fun _ _ _ h => h) (by rfl) ?hy hH ?_
  case hy => (intro w9_ hS9; clear hS9; go_simp; try with_reducible rfl)
  (try simp only [Bk.PU, Act.put])
  refine wpAnyH_take (i := 8) (v := _) rfl (by kernel_rfl) (by kernel_rfl) (by kernel_rfl) (fun _ _ _ h => h) (Or.inl ⟨by rfl, yields_load 30 (x := .tmp 493) rfl rfl (fun W hW => load_mach (H1.out.next hW).rd)⟩) hH ?_
  (try simp only [Bk.PU, Act.put])
  refine tkH 9 (v := ?_) rfl (by kernel_rfl) (fun _ _ _ h => h) (by rfl) ?hy hH ?_
  case hy => (intro w9_ hS9; clear hS9; go_simp; try with_reducible rfl)
  (try simp only [Bk.PU, Act.put])
  refine tkH 10 (v := ?_) rfl (by kernel_rfl) (fun _ _ _ h => h) (by rfl) ?hy hH ?_
  case hy => (intro w9_ hS9; have T9 := (HKI.out.next hS9).cell; clear hS9; go_simp; try with_reducible rfl)
  (try simp only [Bk.PU, Act.put])
  refine wpAnyH_ready (rs := [5]) (by kernel_rfl) (by simp) ?_
  refine AllReadyH.cons rfl (fun K hK => ?_) (AllReadyH.nil)
  go_simp
  refine (c_rstackIn (H1.out.next hH).rd.mls x x0 x1 HB.out.s0 HB.out.s1 fa HFa.out HLa.out).mono ?_
  rintro e w9 ⟨rfl, hb2⟩
  replace hH := hH.next hb2
  clear hb2
  refine hK.out _ _ hH (fun _ => ?_)
  clear hK
  (try simp only [Bk.PU, Act.put])
  refine wpAnyH_ready (rs := [11]) (by kernel_rfl) (by simp) ?_
  refine AllReadyH.cons rfl (fun K hK => ?_) (AllReadyH.nil)
  go_simp
  refine (c_rstackIn (H1.out.next hH).rd.mls y y0 y1 HB.out.s0 HB.out.s1 fb HFb.out HLb.out).mono ?_
  rintro e w2 ⟨rfl, hb2⟩
  replace hH := hH.next hb2
  clear hb2
  refine hK.out _ _ hH (fun _ => ?_)
  clear hK
  (try simp only [Bk.PU, Act.put])
  refine tkH 12 (v := ?_) rfl (by kernel_rfl) (fun _ _ _ h => h) (by rfl) ?hy hH ?_
  case hy => (intro w9_ hS9; clear hS9; go_simp; try with_reducible rfl)
  (try simp only [Bk.PU, Act.put])
  refine tkH 13 (v := ?_) rfl (by kernel_rfl) (fun _ _ _ h => h) (by rfl) ?hy hH ?_
  case hy => (intro w9_ hS9; clear hS9; go_simp; try with_reducible rfl)
  (try simp only [Bk.PU, Act.put])
  refine wpAnyH_done (by kernel_rfl) ?_ _
  have hB2 : Below w1.heap.size w1 w2 := hH
  have H2 := Lib.hid (H1.out.next hB2)
  have hBw2 : Below w.heap.size w w2 := hbw.next hB2
  clear TI zI FI
  obtain ⟨n, cap, rfl, hn, Aa, ca, ea, _, _, _, sa⟩ := H2.out.sv fa HLa.out
  obtain ⟨n', cap', e', _, Ab, cb, eb, _, _, _, sb⟩ := H2.out.sv fb HLb.out
  have e19 := H2.out.c19
  obtain ⟨_, _, _, _, zz⟩ := H2.out.s.form (by rw [H2.out.l.1.1]; have := HLa.out; omega)
  have za := zz fa
  have zb := zz fb
  have HSa := Lib.hid sa; have HSb := Lib.hid sb
  have i1 : (0 : Int) ≤ (fa : Int) := by omega
  have i2 : (fa : Int) < (n : Int) := by have := HLa.out; omega
  have i3 : (0 : Int) ≤ (fb : Int) := by omega
  have i4 : (fb : Int) < (n : Int) := by have := HLb.out; omega
  have n6 : ¬ (fa : Int) < 0 := by omega
  have n7 : ¬ (fb : Int) < 0 := by omega
  dsimp only at *
  clear e' zz sa sb hn
  go_wp2_with fail
  go_quiet (fail)
  go_upto_region 73 with fail
  refine wp_nameY ?_
  intro w3 hw3
  have H3 := Lib.hid (show MOn w3 ⟨b, tt, pre, post, off, gm, gs, fx⟩ _ _ _ _ _ _ _ from by rw [hw3]; exact H2.out.heap rfl)
  have q19 : w3.cell? ⟨b, off + 19, none⟩ = some (.slice (some ⟨gs, 0, none⟩) sv.length cap) := by rw [hw3]; exact e19
  have qa : w3.cell? ⟨gs, fa, none⟩ = some (.slice Aa (M.stk fa).length ca) := by rw [hw3]; exact ea
  have qb : w3.cell? ⟨gs, fb, none⟩ = some (.slice Ab (M.stk fb).length cb) := by rw [hw3]; exact eb
  have ra : w3.frozen? ⟨gs, fa, none⟩ = false := by rw [hw3]; exact za
  have rb : w3.frozen? ⟨gs, fb, none⟩ = false := by rw [hw3]; exact zb
  have HF3 : Hid (Fr (Pl.O ⟨b, tt, pre, post, off, gm, gs, fx⟩) w w3) := Lib.hid (by rw [hw3]; exact (Fr.of hBw2).drewN _)
  have hgs : b ≠ gs := Ne.symm (H3.out.as_ (by have := HLa.out; omega))
  obtain ⟨vz, hvz⟩ := cell?_setCell_some (w := w3) (p := ⟨gs, fa, none⟩) (x := .slice Ab (M.stk fb).length cb) (q := ⟨gs, fb, none⟩) (v := .slice Ab (M.stk fb).length cb) qb
  clear hw3 e19 ea eb za zb H1 H2 hB2 hBw2 hbw HKI hH
  go_wp2_with fail
  go_ret
  exact ⟨rfl, (H3.out.swapStk fa fb HLa.out HLb.out HSa.out HSb.out).matE rfl, by have HF := HF3.out; repeat' (first | with_reducible (first | assumption | apply Fr.refl | apply Fr.drew | apply Fr.drewN | apply Fr.alloc | apply Fr.set) | exact .inl rfl | exact .inr (.inl rfl) | exact .inr (.inr rfl) | (apply Fr.of; assumption))⟩
end Go.Proofs.YteocbllbljeajaaDoor
