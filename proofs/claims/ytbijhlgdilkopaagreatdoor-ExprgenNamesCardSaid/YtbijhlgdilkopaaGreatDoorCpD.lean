/- Several texts in one: CpuD CpuE. -/
import Derived.Test.YtbijhlgdilkopaaGreatDoorCpA
import Derived.Test.YtbijhlgdilkopaaGreatDoorMh
import Derived.Deep.RegionHeld3
set_option linter.unusedVariables false
set_option linter.unusedSimpArgs false
/- The walks of package cpu: stack. -/
set_option maxRecDepth 100000
set_option maxHeartbeats 8000000
set_option linter.unusedVariables false
namespace Go.Proofs.YtbijhlgdilkopaaGreatDoor
open Go.RowKit Bk
variable {w : World} {D : Nat → Prop} {P : Pl} {M : Mach} {vm vs vc vi vo : Value} {sv : List Value}

/-- What a stack's number names in the machine, opened for the walk. -/
theorem stack_out (h : MOn w P M vm vs vc vi vo sv) (hB : MBd M) (op : Int) (a : Nat) (i c d : Int) (i0 : 0 ≤ i) (i1 : i ≤ 16384) (hk : (M.s.length : Int) ≤ find M i) :
    Calls Tryz.prog 95 #[.pointer (some ⟨P.b, P.off, none⟩), .agg #[.int .u8 (op), .int .i64 ((a : Nat)), .int .i64 (i), .int .i64 (c), .int .i64 (d)]] w fun e w' => e = .returned (.int .i64 12) ∧ MAt w' P M ∧ Fr P.O w w' := by
  have HM := Lib.hid h
  have HB := Lib.hid hB
  obtain ⟨f, hf⟩ : ∃ f, find M i = f := ⟨_, rfl⟩
  have hok : decide (f < M.s.length) = false := by simp; omega
  have HF := Lib.hid hf; have HO := Lib.hid hok
  obtain ⟨b, tt, pre, post, off, gm, gs, fx⟩ := P
  dsimp only at *
  clear h hB hf hok hk
  go_enter Tryz.func95, Tryz.ntmps95
  go_wp2_with fail
  refine (c_find' (HM.out.next (by go_grown)) i i0 i1 HB.out HF.out HO.out).mono ?_
  rintro e w1 ⟨rfl, hb1⟩
  have hB1 : Below w.heap.size w w1 := Below.next (by go_grown) hb1
  go_wp2_with fail
  go_ret
  exact ⟨rfl, (HM.out.next hB1).mat, Fr.of hB1⟩

theorem stack_size (h : MOn w P M vm vs vc vi vo sv) (hB : MBd M) (a f : Nat) (ha : a < 16) (i c d : Int) (i0 : 0 ≤ i) (i1 : i ≤ 16384) (hf : find M i = f) (hk : f < M.s.length) :
    Calls Tryz.prog 95 #[.pointer (some ⟨P.b, P.off, none⟩), .agg #[.int .u8 (15), .int .i64 ((a : Nat)), .int .i64 (i), .int .i64 (c), .int .i64 (d)]] w fun e w' => e = .returned (.int .i64 0) ∧ MAt w' P (M.setR a (xor64 (M.reg a) (M.stk f).length)) ∧ Fr P.O w w' := by
  have HM := Lib.hid h; have HB := Lib.hid hB; have HF := Lib.hid hf; have hok : decide ((f : Int) < M.s.length) = true := (by simp; omega); have HO := Lib.hid hok; have HL := Lib.hid hk; have hst := hB.stk f; have HST := Lib.hid hst; obtain ⟨b, tt, pre, post, off, gm, gs, fx⟩ := P; dsimp only at *; clear h hB hf hok hk hst
  go_enter Tryz.func95, Tryz.ntmps95
  go_wp2_with fail
  refine (c_find' (HM.out.next (by go_grown)) i i0 i1 HB.out HF.out HO.out).mono ?_
  rintro e w1 ⟨rfl, hb1⟩; have hB1 : Below w.heap.size w w1 := Below.next (by go_grown) hb1; have KI : Blk w1 w.heap.size 102 #[.int .u8 (15), .int .i64 (a), .int .i64 (i), .int .i64 (c), .int .i64 (d)] := Blk.next (by repeat' (first | assumption | exact Blk.new' (by simp) _ _ | apply Blk.alloc | apply Blk.drew)) hb1; have H1 := Lib.hid (HM.out.next hB1); obtain ⟨n, cap, rfl, hn, As, cs, es, hcs, hAs, hRs, ssv⟩ := H1.out.sv f HL.out; have e19 := H1.out.c19; have er : w1.cell? ⟨b, off + 2 + a, none⟩ = some (.int .i64 (M.reg a)) := H1.out.cr a ha; have zr := H1.out.frozen (off + 2 + a); have zs := (let ⟨_, _, _, _, z⟩ := H1.out.s.form (by rw [H1.out.l.1.1]; have := HL.out; omega); z f); obtain ⟨zI, TI, FI⟩ := KI.open_; dsimp only at *; have i1 : (0 : Int) ≤ (f : Int) := (by omega); have i2 : (f : Int) < (n : Int) := (by have := HL.out; omega); have i3 : (0 : Int) ≤ (a : Int) := (by omega); have i4 : (a : Int) < 16 := (by omega); have HRs := Lib.hid hRs; have HAs := Lib.hid hAs; have HN := Lib.hid hn; clear hb1 KI hRs hAs ssv hn
  go_wp2_with fail
  go_quiet (fail)
  have h1 := HST.out
  go_wp2_with fail
  go_ret
  exact ⟨rfl, (H1.out.setReg a ha _).matE rfl, by repeat' (first | with_reducible (first | assumption | apply Fr.refl | apply Fr.drew | apply Fr.drewN | apply Fr.alloc | apply Fr.set) | exact .inl rfl | exact .inr (.inl rfl) | exact .inr (.inr rfl) | (apply Fr.of; assumption))⟩

theorem stack_empty13 (h : MOn w P M vm vs vc vi vo sv) (hB : MBd M) (a f : Nat) (ha : a < 16) (i c d : Int) (i0 : 0 ≤ i) (i1 : i ≤ 16384) (hf : find M i = f) (hk : f < M.s.length) (he : (M.stk f).length = 0) :
    Calls Tryz.prog 95 #[.pointer (some ⟨P.b, P.off, none⟩), .agg #[.int .u8 (13), .int .i64 ((a : Nat)), .int .i64 (i), .int .i64 (c), .int .i64 (d)]] w fun e w' => e = .returned (.int .i64 13) ∧ MAt w' P M ∧ Fr P.O w w' := by
  have HE := Lib.hid he; clear he
  have HM := Lib.hid h; have HB := Lib.hid hB; have HF := Lib.hid hf; have hok : decide ((f : Int) < M.s.length) = true := (by simp; omega); have HO := Lib.hid hok; have HL := Lib.hid hk; have hst := hB.stk f; have HST := Lib.hid hst; obtain ⟨b, tt, pre, post, off, gm, gs, fx⟩ := P; dsimp only at *; clear h hB hf hok hk hst
  go_enter Tryz.func95, Tryz.ntmps95
  go_wp2_with fail
  refine (c_find' (HM.out.next (by go_grown)) i i0 i1 HB.out HF.out HO.out).mono ?_
  rintro e w1 ⟨rfl, hb1⟩; have hB1 : Below w.heap.size w w1 := Below.next (by go_grown) hb1; have KI : Blk w1 w.heap.size 102 #[.int .u8 (13), .int .i64 (a), .int .i64 (i), .int .i64 (c), .int .i64 (d)] := Blk.next (by repeat' (first | assumption | exact Blk.new' (by simp) _ _ | apply Blk.alloc | apply Blk.drew)) hb1; have H1 := Lib.hid (HM.out.next hB1); obtain ⟨n, cap, rfl, hn, As, cs, es, hcs, hAs, hRs, ssv⟩ := H1.out.sv f HL.out; have e19 := H1.out.c19; have er : w1.cell? ⟨b, off + 2 + a, none⟩ = some (.int .i64 (M.reg a)) := H1.out.cr a ha; have zr := H1.out.frozen (off + 2 + a); have zs := (let ⟨_, _, _, _, z⟩ := H1.out.s.form (by rw [H1.out.l.1.1]; have := HL.out; omega); z f); obtain ⟨zI, TI, FI⟩ := KI.open_; dsimp only at *; have i1 : (0 : Int) ≤ (f : Int) := (by omega); have i2 : (f : Int) < (n : Int) := (by have := HL.out; omega); have i3 : (0 : Int) ≤ (a : Int) := (by omega); have i4 : (a : Int) < 16 := (by omega); have HRs := Lib.hid hRs; have HAs := Lib.hid hAs; have HN := Lib.hid hn; clear hb1 KI hRs hAs ssv hn
  have h0 := HE.out; rw [h0] at es; clear h0; go_wp2_with fail; go_quiet (fail); go_wp2_with fail; go_ret; exact ⟨rfl, H1.out.matE rfl, by repeat' (first | with_reducible (first | assumption | apply Fr.refl | apply Fr.drew | apply Fr.drewN | apply Fr.alloc | apply Fr.set) | exact .inl rfl | exact .inr (.inl rfl) | exact .inr (.inr rfl) | (apply Fr.of; assumption))⟩
theorem stack_empty14 (h : MOn w P M vm vs vc vi vo sv) (hB : MBd M) (a f : Nat) (ha : a < 16) (i c d : Int) (i0 : 0 ≤ i) (i1 : i ≤ 16384) (hf : find M i = f) (hk : f < M.s.length) (he : (M.stk f).length = 0) :
    Calls Tryz.prog 95 #[.pointer (some ⟨P.b, P.off, none⟩), .agg #[.int .u8 (14), .int .i64 ((a : Nat)), .int .i64 (i), .int .i64 (c), .int .i64 (d)]] w fun e w' => e = .returned (.int .i64 13) ∧ MAt w' P M ∧ Fr P.O w w' := by
  have HE := Lib.hid he; clear he
  have HM := Lib.hid h; have HB := Lib.hid hB; have HF := Lib.hid hf; have hok : decide ((f : Int) < M.s.length) = true := (by simp; omega); have HO := Lib.hid hok; have HL := Lib.hid hk; have hst := hB.stk f; have HST := Lib.hid hst; obtain ⟨b, tt, pre, post, off, gm, gs, fx⟩ := P; dsimp only at *; clear h hB hf hok hk hst
  go_enter Tryz.func95, Tryz.ntmps95
  go_wp2_with fail
  refine (c_find' (HM.out.next (by go_grown)) i i0 i1 HB.out HF.out HO.out).mono ?_
  rintro e w1 ⟨rfl, hb1⟩; have hB1 : Below w.heap.size w w1 := Below.next (by go_grown) hb1; have KI : Blk w1 w.heap.size 102 #[.int .u8 (14), .int .i64 (a), .int .i64 (i), .int .i64 (c), .int .i64 (d)] := Blk.next (by repeat' (first | assumption | exact Blk.new' (by simp) _ _ | apply Blk.alloc | apply Blk.drew)) hb1; have H1 := Lib.hid (HM.out.next hB1); obtain ⟨n, cap, rfl, hn, As, cs, es, hcs, hAs, hRs, ssv⟩ := H1.out.sv f HL.out; have e19 := H1.out.c19; have er : w1.cell? ⟨b, off + 2 + a, none⟩ = some (.int .i64 (M.reg a)) := H1.out.cr a ha; have zr := H1.out.frozen (off + 2 + a); have zs := (let ⟨_, _, _, _, z⟩ := H1.out.s.form (by rw [H1.out.l.1.1]; have := HL.out; omega); z f); obtain ⟨zI, TI, FI⟩ := KI.open_; dsimp only at *; have i1 : (0 : Int) ≤ (f : Int) := (by omega); have i2 : (f : Int) < (n : Int) := (by have := HL.out; omega); have i3 : (0 : Int) ≤ (a : Int) := (by omega); have i4 : (a : Int) < 16 := (by omega); have HRs := Lib.hid hRs; have HAs := Lib.hid hAs; have HN := Lib.hid hn; clear hb1 KI hRs hAs ssv hn
  have h0 := HE.out; rw [h0] at es; clear h0; go_wp2_with fail; go_quiet (fail); go_wp2_with fail; go_ret; exact ⟨rfl, H1.out.matE rfl, by repeat' (first | with_reducible (first | assumption | apply Fr.refl | apply Fr.drew | apply Fr.drewN | apply Fr.alloc | apply Fr.set) | exact .inl rfl | exact .inr (.inl rfl) | exact .inr (.inr rfl) | (apply Fr.of; assumption))⟩

theorem stack_top (h : MOn w P M vm vs vc vi vo sv) (hB : MBd M) (a f : Nat) (ha : a < 16) (i c d : Int) (i0 : 0 ≤ i) (i1 : i ≤ 16384) (hf : find M i = f) (hk : f < M.s.length) (he : (M.stk f).length ≠ 0) :
    Calls Tryz.prog 95 #[.pointer (some ⟨P.b, P.off, none⟩), .agg #[.int .u8 (14), .int .i64 ((a : Nat)), .int .i64 (i), .int .i64 (c), .int .i64 (d)]] w fun e w' => e = .returned (.int .i64 0) ∧ MAt w' P (M.setR a (xor64 (M.reg a) ((M.stk f).getLastD 0))) ∧ Fr P.O w w' := by
  have HE := Lib.hid he; clear he
  have HM := Lib.hid h; have HB := Lib.hid hB; have HF := Lib.hid hf; have hok : decide ((f : Int) < M.s.length) = true := (by simp; omega); have HO := Lib.hid hok; have HL := Lib.hid hk; have hst := hB.stk f; have HST := Lib.hid hst; obtain ⟨b, tt, pre, post, off, gm, gs, fx⟩ := P; dsimp only at *; clear h hB hf hok hk hst
  go_enter Tryz.func95, Tryz.ntmps95
  go_wp2_with fail
  refine (c_find' (HM.out.next (by go_grown)) i i0 i1 HB.out HF.out HO.out).mono ?_
  rintro e w1 ⟨rfl, hb1⟩; have hB1 : Below w.heap.size w w1 := Below.next (by go_grown) hb1; have KI : Blk w1 w.heap.size 102 #[.int .u8 (14), .int .i64 (a), .int .i64 (i), .int .i64 (c), .int .i64 (d)] := Blk.next (by repeat' (first | assumption | exact Blk.new' (by simp) _ _ | apply Blk.alloc | apply Blk.drew)) hb1; have H1 := Lib.hid (HM.out.next hB1); obtain ⟨n, cap, rfl, hn, As, cs, es, hcs, hAs, hRs, ssv⟩ := H1.out.sv f HL.out; have e19 := H1.out.c19; have er : w1.cell? ⟨b, off + 2 + a, none⟩ = some (.int .i64 (M.reg a)) := H1.out.cr a ha; have zr := H1.out.frozen (off + 2 + a); have zs := (let ⟨_, _, _, _, z⟩ := H1.out.s.form (by rw [H1.out.l.1.1]; have := HL.out; omega); z f); obtain ⟨zI, TI, FI⟩ := KI.open_; dsimp only at *; have i1 : (0 : Int) ≤ (f : Int) := (by omega); have i2 : (f : Int) < (n : Int) := (by have := HL.out; omega); have i3 : (0 : Int) ≤ (a : Int) := (by omega); have i4 : (a : Int) < 16 := (by omega); have HRs := Lib.hid hRs; have HAs := Lib.hid hAs; have HN := Lib.hid hn; clear hb1 KI hRs hAs ssv hn
  obtain ⟨m, hm⟩ : ∃ m, (M.stk f).length = m + 1 := ⟨(M.stk f).length - 1, by have := HE.out; omega⟩; have hRs := HRs.out; rw [hm] at es hcs hRs; obtain ⟨bs, os, rfl, _, hcell⟩ := hRs.2 (by omega); have el := hcell m _ (intCells_get (M.stk f) m (by omega)); rw [last_get hm] at el; generalize hlv : (M.stk f).getLastD 0 = lv at *; have hgs : gs ≠ b := (H1.out.as_ (by have := HL.out; omega)); have hgs' : b ≠ gs := Ne.symm hgs; have HLV := Lib.hid hlv; clear hlv; have j1 : (0 : Int) ≤ (m : Int) := (by omega); have j2 : (m : Int) < (m : Int) + 1 := (by omega); have j3 : (m : Int) ≤ 17592186044400 := (by have := HST.out; omega); have hcs' : m ≤ cs := (by omega); have HCell := Lib.hid hcell; have HM1 := Lib.hid hm; have HRs' := Lib.hid hRs; clear hcell hm hRs
  go_wp2_with fail
  go_quiet (fail)
  go_wp2_with fail
  go_region
  go_wp2
  go_ret
  rw [HLV.out]
  exact ⟨rfl, (H1.out.setReg a ha _).matE rfl, by repeat' (first | with_reducible (first | assumption | apply Fr.refl | apply Fr.drew | apply Fr.drewN | apply Fr.alloc | apply Fr.set) | exact .inl rfl | exact .inr (.inl rfl) | exact .inr (.inr rfl) | (apply Fr.of; assumption))⟩
theorem stack_clear (h : MOn w P M vm vs vc vi vo sv) (hB : MBd M) (a f : Nat) (ha : a < 16) (i c d : Int) (i0 : 0 ≤ i) (i1 : i ≤ 16384) (hf : find M i = f) (hk : f < M.s.length) (he : (M.stk f).length ≠ 0) (hr : M.reg a ≠ 0) :
    Calls Tryz.prog 95 #[.pointer (some ⟨P.b, P.off, none⟩), .agg #[.int .u8 (13), .int .i64 ((a : Nat)), .int .i64 (i), .int .i64 (c), .int .i64 (d)]] w fun e w' => e = .returned (.int .i64 14) ∧ MAt w' P M ∧ Fr P.O w w' := by
  have HE := Lib.hid he; clear he
  have hr' : (M.reg a != 0) = true := by simpa using hr
  have HM := Lib.hid h; have HB := Lib.hid hB; have HF := Lib.hid hf; have hok : decide ((f : Int) < M.s.length) = true := (by simp; omega); have HO := Lib.hid hok; have HL := Lib.hid hk; have hst := hB.stk f; have HST := Lib.hid hst; obtain ⟨b, tt, pre, post, off, gm, gs, fx⟩ := P; dsimp only at *; clear h hB hf hok hk hst
  go_enter Tryz.func95, Tryz.ntmps95
  go_wp2_with fail
  refine (c_find' (HM.out.next (by go_grown)) i i0 i1 HB.out HF.out HO.out).mono ?_
  rintro e w1 ⟨rfl, hb1⟩; have hB1 : Below w.heap.size w w1 := Below.next (by go_grown) hb1; have KI : Blk w1 w.heap.size 102 #[.int .u8 (13), .int .i64 (a), .int .i64 (i), .int .i64 (c), .int .i64 (d)] := Blk.next (by repeat' (first | assumption | exact Blk.new' (by simp) _ _ | apply Blk.alloc | apply Blk.drew)) hb1; have H1 := Lib.hid (HM.out.next hB1); obtain ⟨n, cap, rfl, hn, As, cs, es, hcs, hAs, hRs, ssv⟩ := H1.out.sv f HL.out; have e19 := H1.out.c19; have er : w1.cell? ⟨b, off + 2 + a, none⟩ = some (.int .i64 (M.reg a)) := H1.out.cr a ha; have zr := H1.out.frozen (off + 2 + a); have zs := (let ⟨_, _, _, _, z⟩ := H1.out.s.form (by rw [H1.out.l.1.1]; have := HL.out; omega); z f); obtain ⟨zI, TI, FI⟩ := KI.open_; dsimp only at *; have i1 : (0 : Int) ≤ (f : Int) := (by omega); have i2 : (f : Int) < (n : Int) := (by have := HL.out; omega); have i3 : (0 : Int) ≤ (a : Int) := (by omega); have i4 : (a : Int) < 16 := (by omega); have HRs := Lib.hid hRs; have HAs := Lib.hid hAs; have HN := Lib.hid hn; clear hb1 KI hRs hAs ssv hn
  obtain ⟨m, hm⟩ : ∃ m, (M.stk f).length = m + 1 := ⟨(M.stk f).length - 1, by have := HE.out; omega⟩; have hRs := HRs.out; rw [hm] at es hcs hRs; obtain ⟨bs, os, rfl, _, hcell⟩ := hRs.2 (by omega); have el := hcell m _ (intCells_get (M.stk f) m (by omega)); rw [last_get hm] at el; generalize hlv : (M.stk f).getLastD 0 = lv at *; have hgs : gs ≠ b := (H1.out.as_ (by have := HL.out; omega)); have hgs' : b ≠ gs := Ne.symm hgs; have HLV := Lib.hid hlv; clear hlv; have j1 : (0 : Int) ≤ (m : Int) := (by omega); have j2 : (m : Int) < (m : Int) + 1 := (by omega); have j3 : (m : Int) ≤ 17592186044400 := (by have := HST.out; omega); have hcs' : m ≤ cs := (by omega); have HCell := Lib.hid hcell; have HM1 := Lib.hid hm; have HRs' := Lib.hid hRs; clear hcell hm hRs
  go_wp2_with fail
  go_quiet (fail)
  go_wp2_with fail
  go_ret
  exact ⟨rfl, H1.out.matE rfl, by repeat' (first | with_reducible (first | assumption | apply Fr.refl | apply Fr.drew | apply Fr.drewN | apply Fr.alloc | apply Fr.set) | exact .inl rfl | exact .inr (.inl rfl) | exact .inr (.inr rfl) | (apply Fr.of; assumption))⟩
theorem stack_pop (h : MOn w P M vm vs vc vi vo sv) (hB : MBd M) (a f : Nat) (ha : a < 16) (i c d : Int) (i0 : 0 ≤ i) (i1 : i ≤ 16384) (hf : find M i = f) (hk : f < M.s.length) (he : (M.stk f).length ≠ 0) (hr : M.reg a = 0) :
    Calls Tryz.prog 95 #[.pointer (some ⟨P.b, P.off, none⟩), .agg #[.int .u8 (13), .int .i64 ((a : Nat)), .int .i64 (i), .int .i64 (c), .int .i64 (d)]] w fun e w' => e = .returned (.int .i64 0) ∧ MAt w' P ((M.setS f (M.stk f).dropLast).setR a ((M.stk f).getLastD 0)) ∧ Fr P.O w w' := by
  have HE := Lib.hid he; clear he
  have HZ := Lib.hid hr; clear hr
  have HM := Lib.hid h; have HB := Lib.hid hB; have HF := Lib.hid hf; have hok : decide ((f : Int) < M.s.length) = true := (by simp; omega); have HO := Lib.hid hok; have HL := Lib.hid hk; have hst := hB.stk f; have HST := Lib.hid hst; obtain ⟨b, tt, pre, post, off, gm, gs, fx⟩ := P; dsimp only at *; clear h hB hf hok hk hst
  go_enter Tryz.func95, Tryz.ntmps95
  go_wp2_with fail
  refine (c_find' (HM.out.next (by go_grown)) i i0 i1 HB.out HF.out HO.out).mono ?_
  rintro e w1 ⟨rfl, hb1⟩; have hB1 : Below w.heap.size w w1 := Below.next (by go_grown) hb1; have KI : Blk w1 w.heap.size 102 #[.int .u8 (13), .int .i64 (a), .int .i64 (i), .int .i64 (c), .int .i64 (d)] := Blk.next (by repeat' (first | assumption | exact Blk.new' (by simp) _ _ | apply Blk.alloc | apply Blk.drew)) hb1; have H1 := Lib.hid (HM.out.next hB1); obtain ⟨n, cap, rfl, hn, As, cs, es, hcs, hAs, hRs, ssv⟩ := H1.out.sv f HL.out; have e19 := H1.out.c19; have er : w1.cell? ⟨b, off + 2 + a, none⟩ = some (.int .i64 (M.reg a)) := H1.out.cr a ha; have zr := H1.out.frozen (off + 2 + a); have zs := (let ⟨_, _, _, _, z⟩ := H1.out.s.form (by rw [H1.out.l.1.1]; have := HL.out; omega); z f); obtain ⟨zI, TI, FI⟩ := KI.open_; dsimp only at *; have i1 : (0 : Int) ≤ (f : Int) := (by omega); have i2 : (f : Int) < (n : Int) := (by have := HL.out; omega); have i3 : (0 : Int) ≤ (a : Int) := (by omega); have i4 : (a : Int) < 16 := (by omega); have HRs := Lib.hid hRs; have HAs := Lib.hid hAs; have HN := Lib.hid hn; clear hb1 KI hRs hAs ssv hn
  obtain ⟨m, hm⟩ : ∃ m, (M.stk f).length = m + 1 := ⟨(M.stk f).length - 1, by have := HE.out; omega⟩; have hRs := HRs.out; rw [hm] at es hcs hRs; obtain ⟨bs, os, rfl, _, hcell⟩ := hRs.2 (by omega); have el := hcell m _ (intCells_get (M.stk f) m (by omega)); rw [last_get hm] at el; generalize hlv : (M.stk f).getLastD 0 = lv at *; have hgs : gs ≠ b := (H1.out.as_ (by have := HL.out; omega)); have hgs' : b ≠ gs := Ne.symm hgs; have HLV := Lib.hid hlv; clear hlv; have j1 : (0 : Int) ≤ (m : Int) := (by omega); have j2 : (m : Int) < (m : Int) + 1 := (by omega); have j3 : (m : Int) ≤ 17592186044400 := (by have := HST.out; omega); have hcs' : m ≤ cs := (by omega); have HCell := Lib.hid hcell; have HM1 := Lib.hid hm; have HRs' := Lib.hid hRs; clear hcell hm hRs
  rw [HZ.out] at er
  go_wp2_with fail
  go_quiet (fail)
  go_wp2_with fail
  go_region
  go_wp2
  go_ret
  rw [HLV.out]
  exact ⟨rfl, ((H1.out.setReg a ha _).setStk f HL.out _ _ ((Sl.pop HM1.out hcs HAs.out HRs'.out).keep MOn.keep1 MOn.dset)).matE rfl, by repeat' (first | with_reducible (first | assumption | apply Fr.refl | apply Fr.drew | apply Fr.drewN | apply Fr.alloc | apply Fr.set) | exact .inl rfl | exact .inr (.inl rfl) | exact .inr (.inr rfl) | (apply Fr.of; assumption))⟩

theorem info_intP : (Tryz.prog.info? 3).map (fun i => (i.zero, i.size, i.bytes)) = some (some (.int .i64 0), 1, 8) := by kernel_rfl
theorem oneInt (l : List Int) : ∀ u ∈ intCells l, u.oneCell' = true := by
  intro u hu; simp [intCells] at hu; obtain ⟨x, _, rfl⟩ := hu; rfl

/-- 'append' of one number to a slice that is full: the new slice lies in new memory. -/
theorem step_push {ops : Array Oper} {o : Oper} {a : Act} {w : World} {K : Act → World → Prop} {Q : Exit → Act → World → Prop} {E : Prop}
    (hg : o.guard = none) (s x : Operand) (hop : o.op = Op.call { callee := Callee.builtin Builtin.append, args := #[s, x], argTypes := #[46, 46] })
    (A : Option Addr) (n : Nat) (l : List Int) (hs : a.eval s = .slice A n n) (hA : A = none → n = 0) {D : Nat → Prop} (hR : Rd w D 1 A n (intCells l)) (hmax : n ≤ 17592186044400)
    (g : Nat) (v : Int) (hx : a.eval x = .slice (some ⟨g, 0, none⟩) 1 1) (hc : w.cell? ⟨g, 0, none⟩ = some (.int .i64 v))
    (hK : ∀ g' c w', Sl w' (fun b => w.heap.size ≤ b ∧ b < w'.heap.size) 1 (.slice (some ⟨g', 0, none⟩) (n + 1) c) (n + 1) (intCells (l ++ [v])) → Below w.heap.size w w' → K (a.put o.dst (.slice (some ⟨g', 0, none⟩) (n + 1) c)) w') :
    if Region.wanted o (yielded ops a.tmps) = true then Oper.wp Tryz.prog o a w K Q else E := by
  obtain ⟨i2, li, lz, ls, lb⟩ := info_parts info_intP
  have hl : (intCells l).length = n := by have := hR.1; omega
  refine step_app hg s x 46 hop 3 i2 _ 1 8 Tryz.underlying46 li lz ls lb rfl (by decide) A n n (intCells l) hs (fun h => ⟨hA h, hA h⟩) (by omega) (fun b hb j u hu => ?_) ⟨g, 0, none⟩ 1 1 [.int .i64 v] hx rfl (cell_one hc) (by simp [Value.oneCell']) (by omega) (by unfold maxLen; omega) (by omega) (fun v' w' hown hgr => ?_)
  · have hj : j < n := by
      rcases Nat.lt_or_ge j n with h | h
      · exact h
      · rw [List.getElem?_eq_none (by omega)] at hu; cases hu
    obtain ⟨bb, off, e, _, hcc⟩ := hR.2 (by omega)
    rw [hb] at e
    injection e with e
    subst e
    rw [Addr.add_lit]
    exact hcc j u hu
  · obtain ⟨g', cap, rfl, _⟩ := own_some hown (by omega)
    refine hK g' cap w' ?_ ((Below.refl _ _).grown hgr (Nat.le_refl _) (fun k hk => by cases hk))
    rw [intCells_append]
    exact Sl.of_own hown

theorem stack_full (h : MOn w P M vm vs vc vi vo sv) (hB : MBd M) (a f : Nat) (ha : a < 16) (i c d : Int) (i0 : 0 ≤ i) (i1 : i ≤ 16384) (hf : find M i = f) (hk : f < M.s.length) (h0 : f ≠ 0) (hr : 1000 ≤ (M.stk f).length) :
    Calls Tryz.prog 95 #[.pointer (some ⟨P.b, P.off, none⟩), .agg #[.int .u8 (12), .int .i64 ((a : Nat)), .int .i64 (i), .int .i64 (c), .int .i64 (d)]] w fun e w' => e = .returned (.int .i64 5) ∧ MAt w' P M ∧ Fr P.O w w' := by
  have h0' : ((f : Int) != 0) = true := by simpa using h0
  have hr' : decide (1000 ≤ ((M.stk f).length : Int)) = true := by simp; omega
  have HM := Lib.hid h; have HB := Lib.hid hB; have HF := Lib.hid hf; have hok : decide ((f : Int) < M.s.length) = true := (by simp; omega); have HO := Lib.hid hok; have HL := Lib.hid hk; have hst := hB.stk f; have HST := Lib.hid hst; obtain ⟨b, tt, pre, post, off, gm, gs, fx⟩ := P; dsimp only at *; clear h hB hf hok hk hst
  go_enter Tryz.func95, Tryz.ntmps95
  go_wp2_with fail
  refine (c_find' (HM.out.next (by go_grown)) i i0 i1 HB.out HF.out HO.out).mono ?_
  rintro e w1 ⟨rfl, hb1⟩; have hB1 : Below w.heap.size w w1 := Below.next (by go_grown) hb1; have KI : Blk w1 w.heap.size 102 #[.int .u8 (12), .int .i64 (a), .int .i64 (i), .int .i64 (c), .int .i64 (d)] := Blk.next (by repeat' (first | assumption | exact Blk.new' (by simp) _ _ | apply Blk.alloc | apply Blk.drew)) hb1; have H1 := Lib.hid (HM.out.next hB1); obtain ⟨n, cap, rfl, hn, As, cs, es, hcs, hAs, hRs, ssv⟩ := H1.out.sv f HL.out; have e19 := H1.out.c19; have er : w1.cell? ⟨b, off + 2 + a, none⟩ = some (.int .i64 (M.reg a)) := H1.out.cr a ha; have zr := H1.out.frozen (off + 2 + a); have zs := (let ⟨_, _, _, _, z⟩ := H1.out.s.form (by rw [H1.out.l.1.1]; have := HL.out; omega); z f); obtain ⟨zI, TI, FI⟩ := KI.open_; dsimp only at *; have i1 : (0 : Int) ≤ (f : Int) := (by omega); have i2 : (f : Int) < (n : Int) := (by have := HL.out; omega); have i3 : (0 : Int) ≤ (a : Int) := (by omega); have i4 : (a : Int) < 16 := (by omega); have HRs := Lib.hid hRs; have HAs := Lib.hid hAs; have HN := Lib.hid hn; clear hb1 KI hRs hAs ssv hn
  have h1 := HST.out
  go_wp2_with fail
  go_quiet (fail)
  go_wp2_with fail
  go_ret
  exact ⟨rfl, H1.out.matE rfl, by repeat' (first | with_reducible (first | assumption | apply Fr.refl | apply Fr.drew | apply Fr.drewN | apply Fr.alloc | apply Fr.set) | exact .inl rfl | exact .inr (.inl rfl) | exact .inr (.inr rfl) | (apply Fr.of; assumption))⟩
theorem stack_push (h : MOn w P M vm vs vc vi vo sv) (hB : MBd M) (a f : Nat) (ha : a < 16) (i c d : Int) (i0 : 0 ≤ i) (i1 : i ≤ 16384) (hf : find M i = f) (hk : f < M.s.length) (hz : f = 0 ∨ (M.stk f).length < 1000) :
    Calls Tryz.prog 95 #[.pointer (some ⟨P.b, P.off, none⟩), .agg #[.int .u8 (12), .int .i64 ((a : Nat)), .int .i64 (i), .int .i64 (c), .int .i64 (d)]] w fun e w' => e = .returned (.int .i64 0) ∧ MAt w' P ((M.setS f (M.stk f ++ [M.reg a])).setR a 0) ∧ Fr P.O w w' := by
  have HZ := Lib.hid hz; clear hz
  have HM := Lib.hid h; have HB := Lib.hid hB; have HF := Lib.hid hf; have hok : decide ((f : Int) < M.s.length) = true := (by simp; omega); have HO := Lib.hid hok; have HL := Lib.hid hk; have hst := hB.stk f; have HST := Lib.hid hst; obtain ⟨b, tt, pre, post, off, gm, gs, fx⟩ := P; dsimp only at *; clear h hB hf hok hk hst
  go_enter Tryz.func95, Tryz.ntmps95
  go_wp2_with fail
  refine (c_find' (HM.out.next (by go_grown)) i i0 i1 HB.out HF.out HO.out).mono ?_
  rintro e w1 ⟨rfl, hb1⟩; have hB1 : Below w.heap.size w w1 := Below.next (by go_grown) hb1; have KI : Blk w1 w.heap.size 102 #[.int .u8 (12), .int .i64 (a), .int .i64 (i), .int .i64 (c), .int .i64 (d)] := Blk.next (by repeat' (first | assumption | exact Blk.new' (by simp) _ _ | apply Blk.alloc | apply Blk.drew)) hb1; have H1 := Lib.hid (HM.out.next hB1); obtain ⟨n, cap, rfl, hn, As, cs, es, hcs, hAs, hRs, ssv⟩ := H1.out.sv f HL.out; have e19 := H1.out.c19; have er : w1.cell? ⟨b, off + 2 + a, none⟩ = some (.int .i64 (M.reg a)) := H1.out.cr a ha; have zr := H1.out.frozen (off + 2 + a); have zs := (let ⟨_, _, _, _, z⟩ := H1.out.s.form (by rw [H1.out.l.1.1]; have := HL.out; omega); z f); obtain ⟨zI, TI, FI⟩ := KI.open_; dsimp only at *; have i1 : (0 : Int) ≤ (f : Int) := (by omega); have i2 : (f : Int) < (n : Int) := (by have := HL.out; omega); have i3 : (0 : Int) ≤ (a : Int) := (by omega); have i4 : (a : Int) < 16 := (by omega); have HRs := Lib.hid hRs; have HAs := Lib.hid hAs; have HN := Lib.hid hn; clear hb1 KI hRs hAs ssv hn
  have h1 := HST.out
  have hgs : gs ≠ b := (H1.out.as_ (by have := HL.out; omega))
  have hgs' : b ≠ gs := Ne.symm hgs
  have hblt := H1.out.lt
  have hglt := H1.out.gs
  dsimp only at hblt hglt
  have hbne : b ≠ w1.heap.size := by omega
  have hgne : gs ≠ w1.heap.size := by omega
  have HCS := Lib.hid hcs
  go_wp2_with fail
  go_quiet (fail)
  rcases HZ.out with hz | hz
  · have h0' : ((f : Int) != 0) = false := by simp [hz]
    clear hz
    go_wp2_with fail
    go_region_held3 (fun w' => w'.cell? ⟨b, off + 19, none⟩ = some (.slice (some ⟨gs, 0, none⟩) n cap) ∧ w'.cell? ⟨b, off + 2 + a, none⟩ = some (.int .i64 (M.reg a))) (first | (refine ⟨Lib.cell?_alloc_some _ ?_, Lib.cell?_alloc_some _ ?_⟩ <;> go_simp) | go_simp) (first | (go_at_call 65; ((with_reducible refine (c_ClipInt As _ cs HCS.out HAs.out HST.out _).mono ?_); rintro e w' ⟨rfl, rfl⟩)) | (refine step_push rfl (.tmp 78) (.tmp 82) rfl As (M.stk f).length (M.stk f) (by simp [Act.eval]) (fun h => by have := HAs.out h; have := HCS.out; omega) (HRs.out.keep fun b' o hd => cell_up hd.1 (by repeat' (first | (with_reducible assumption) | (with_reducible exact Below.refl _ _) | (with_reducible refine Below.alloc ?_ ?_ _) | (with_reducible refine Bk.drewN_ ?_ _) | (with_reducible refine Below.drew ?_) | (with_reducible refine Below.setCell ?_ ?_ _) | go_size))) HST.out w1.heap.size (M.reg a) (by simp [Act.eval]) (by exact (Blk.new' rfl _ _).cell 0) ?_; intro g2 c2 w2 hS2 hb2; have hB2 : Below w1.heap.size w1 w2 := Below.next (by repeat' (first | (with_reducible assumption) | (with_reducible exact Below.refl _ _) | (with_reducible refine Below.alloc ?_ ?_ _) | (with_reducible refine Bk.drewN_ ?_ _) | (with_reducible refine Below.drew ?_) | (with_reducible refine Below.setCell ?_ ?_ _) | go_size)) hb2; obtain ⟨hc2, hf2⟩ := bcell hB2; have HS2 := Lib.hid hS2; have HB2 := Lib.hid hB2; have hBw2 := hB1.next hB2; clear hS2 hb2)); all_goals (go_wp2_with fail; go_ret; exact ⟨rfl, (((H1.out.next HB2.out).setStk f HL.out _ (M.stk f ++ [M.reg a]) (by rw [List.length_append]; exact HS2.out.mono fun k hk => H1.out.fresh (by have := hk.1; simp at this; omega) hk.2)).setReg a ha 0).matE rfl, by repeat' (first | (with_reducible exact Fr.refl _ _) | with_reducible assumption | (with_reducible refine Fr.drew ?_) | (with_reducible refine Fr.drewN ?_ _) | (with_reducible refine Fr.alloc ?_ _) | (with_reducible refine Fr.set ?_ ?_ _) | exact Or.inl rfl | exact Or.inr (Or.inl rfl) | exact Or.inr (Or.inr rfl) | (refine Fr.of ?_; assumption))⟩)
  · have h0' : decide (1000 ≤ ((M.stk f).length : Int)) = false := by simp; omega
    clear hz
    by_cases hz : f = 0
    · have h0'' : ((f : Int) != 0) = false := by simp [hz]
      clear hz
      go_wp2_with fail
      go_region_held3 (fun w' => w'.cell? ⟨b, off + 19, none⟩ = some (.slice (some ⟨gs, 0, none⟩) n cap) ∧ w'.cell? ⟨b, off + 2 + a, none⟩ = some (.int .i64 (M.reg a))) (first | (refine ⟨Lib.cell?_alloc_some _ ?_, Lib.cell?_alloc_some _ ?_⟩ <;> go_simp) | go_simp) (first | (go_at_call 65; ((with_reducible refine (c_ClipInt As _ cs HCS.out HAs.out HST.out _).mono ?_); rintro e w' ⟨rfl, rfl⟩)) | (refine step_push rfl (.tmp 78) (.tmp 82) rfl As (M.stk f).length (M.stk f) (by simp [Act.eval]) (fun h => by have := HAs.out h; have := HCS.out; omega) (HRs.out.keep fun b' o hd => cell_up hd.1 (by repeat' (first | (with_reducible assumption) | (with_reducible exact Below.refl _ _) | (with_reducible refine Below.alloc ?_ ?_ _) | (with_reducible refine Bk.drewN_ ?_ _) | (with_reducible refine Below.drew ?_) | (with_reducible refine Below.setCell ?_ ?_ _) | go_size))) HST.out w1.heap.size (M.reg a) (by simp [Act.eval]) (by exact (Blk.new' rfl _ _).cell 0) ?_; intro g2 c2 w2 hS2 hb2; have hB2 : Below w1.heap.size w1 w2 := Below.next (by repeat' (first | (with_reducible assumption) | (with_reducible exact Below.refl _ _) | (with_reducible refine Below.alloc ?_ ?_ _) | (with_reducible refine Bk.drewN_ ?_ _) | (with_reducible refine Below.drew ?_) | (with_reducible refine Below.setCell ?_ ?_ _) | go_size)) hb2; obtain ⟨hc2, hf2⟩ := bcell hB2; have HS2 := Lib.hid hS2; have HB2 := Lib.hid hB2; have hBw2 := hB1.next hB2; clear hS2 hb2)); all_goals (go_wp2_with fail; go_ret; exact ⟨rfl, (((H1.out.next HB2.out).setStk f HL.out _ (M.stk f ++ [M.reg a]) (by rw [List.length_append]; exact HS2.out.mono fun k hk => H1.out.fresh (by have := hk.1; simp at this; omega) hk.2)).setReg a ha 0).matE rfl, by repeat' (first | (with_reducible exact Fr.refl _ _) | with_reducible assumption | (with_reducible refine Fr.drew ?_) | (with_reducible refine Fr.drewN ?_ _) | (with_reducible refine Fr.alloc ?_ _) | (with_reducible refine Fr.set ?_ ?_ _) | exact Or.inl rfl | exact Or.inr (Or.inl rfl) | exact Or.inr (Or.inr rfl) | (refine Fr.of ?_; assumption))⟩)
    · have h0'' : ((f : Int) != 0) = true := by simp [hz]
      clear hz
      go_wp2_with fail
      go_region_held3 (fun w' => w'.cell? ⟨b, off + 19, none⟩ = some (.slice (some ⟨gs, 0, none⟩) n cap) ∧ w'.cell? ⟨b, off + 2 + a, none⟩ = some (.int .i64 (M.reg a))) (first | (refine ⟨Lib.cell?_alloc_some _ ?_, Lib.cell?_alloc_some _ ?_⟩ <;> go_simp) | go_simp) (first | (go_at_call 65; ((with_reducible refine (c_ClipInt As _ cs HCS.out HAs.out HST.out _).mono ?_); rintro e w' ⟨rfl, rfl⟩)) | (refine step_push rfl (.tmp 78) (.tmp 82) rfl As (M.stk f).length (M.stk f) (by simp [Act.eval]) (fun h => by have := HAs.out h; have := HCS.out; omega) (HRs.out.keep fun b' o hd => cell_up hd.1 (by repeat' (first | (with_reducible assumption) | (with_reducible exact Below.refl _ _) | (with_reducible refine Below.alloc ?_ ?_ _) | (with_reducible refine Bk.drewN_ ?_ _) | (with_reducible refine Below.drew ?_) | (with_reducible refine Below.setCell ?_ ?_ _) | go_size))) HST.out w1.heap.size (M.reg a) (by simp [Act.eval]) (by exact (Blk.new' rfl _ _).cell 0) ?_; intro g2 c2 w2 hS2 hb2; have hB2 : Below w1.heap.size w1 w2 := Below.next (by repeat' (first | (with_reducible assumption) | (with_reducible exact Below.refl _ _) | (with_reducible refine Below.alloc ?_ ?_ _) | (with_reducible refine Bk.drewN_ ?_ _) | (with_reducible refine Below.drew ?_) | (with_reducible refine Below.setCell ?_ ?_ _) | go_size)) hb2; obtain ⟨hc2, hf2⟩ := bcell hB2; have HS2 := Lib.hid hS2; have HB2 := Lib.hid hB2; have hBw2 := hB1.next hB2; clear hS2 hb2)); all_goals (go_wp2_with fail; go_ret; exact ⟨rfl, (((H1.out.next HB2.out).setStk f HL.out _ (M.stk f ++ [M.reg a]) (by rw [List.length_append]; exact HS2.out.mono fun k hk => H1.out.fresh (by have := hk.1; simp at this; omega) hk.2)).setReg a ha 0).matE rfl, by repeat' (first | (with_reducible exact Fr.refl _ _) | with_reducible assumption | (with_reducible refine Fr.drew ?_) | (with_reducible refine Fr.drewN ?_ _) | (with_reducible refine Fr.alloc ?_ _) | (with_reducible refine Fr.set ?_ ?_ _) | exact Or.inl rfl | exact Or.inr (Or.inl rfl) | exact Or.inr (Or.inr rfl) | (refine Fr.of ?_; assumption))⟩)
end Go.Proofs.YtbijhlgdilkopaaGreatDoor

/- The walks of package cpu: transfer. -/
set_option maxRecDepth 100000
set_option maxHeartbeats 8000000
set_option linter.unusedVariables false
namespace Go.Proofs.YtbijhlgdilkopaaGreatDoor
open Go.RowKit Bk
variable {w : World} {D : Nat → Prop} {P : Pl} {M : Mach} {vm vs vc vi vo : Value} {sv : List Value}

/-- slices.Clip, as one step of a region that draws. -/
theorem step_clip {ops : Array Oper} {o : Oper} {a : Act} {w : World} {K : Act → World → Prop} {Q : Exit → Act → World → Prop} {E : Prop}
    (hg : o.guard = none) (k : Nat) (t : TypeId) (hop : o.op = Op.call { callee := Callee.value (Operand.func 65), args := #[.tmp k], argTypes := #[t] })
    (A : Option Addr) (n cap : Nat) (hx : a.eval (.tmp k) = .slice A n cap) (hn : n ≤ cap) (hA : A = none → cap = 0) (hmax : n ≤ 17592186044400)
    (hK : K (a.put o.dst (.slice A n n)) w) :
    if Region.wanted o (yielded ops a.tmps) = true then Oper.wp Tryz.prog o a w K Q else E := by
  have hw : Region.wanted o (yielded ops a.tmps) = true := by simp [Region.wanted, hg]
  rw [if_pos hw]
  have hx' : a.tmps[k]?.getD undef = .slice A n cap := by simpa [Act.eval] using hx
  unfold Oper.wp execOp
  rw [hop]
  go_simp
  refine (c_ClipInt A n cap hn hA hmax w).mono ?_
  rintro e w' ⟨rfl, rfl⟩
  exact hK

theorem unread_full (h : MOn w P M vm vs vc vi vo sv) (hB : MBd M) (a : Nat) (ha : a < 16) (i c d : Int) (hf : 4096 ≤ M.inp.length) :
    Calls Tryz.prog 96 #[.pointer (some ⟨P.b, P.off, none⟩), .agg #[.int .u8 (18), .int .i64 ((a : Nat)), .int .i64 (i), .int .i64 (c), .int .i64 (d)]] w fun e w' => e = .returned (.int .i64 5) ∧ MAt w' P M ∧ Fr P.O w w' := by
  have hf' : decide (4096 ≤ (M.inp.length : Int)) = true := by simp; omega
  have h1 := h.next ((Below.refl _ _).alloc (Nat.le_refl _) (.cells #[.int .u8 (18), .int .i64 (a), .int .i64 (i), .int .i64 (c), .int .i64 (d)] 102)); have hbw : Below w.heap.size w (w.alloc (.cells #[.int .u8 (18), .int .i64 (a), .int .i64 (i), .int .i64 (c), .int .i64 (d)] 102)) := (Below.refl _ _).alloc (Nat.le_refl _) _; obtain ⟨w1, hw1⟩ : ∃ w1, w1 = w.alloc (.cells #[.int .u8 (18), .int .i64 (a), .int .i64 (i), .int .i64 (c), .int .i64 (d)] 102) := ⟨_, rfl⟩; have KI : Blk w1 w.heap.size 102 #[.int .u8 (18), .int .i64 (a), .int .i64 (i), .int .i64 (c), .int .i64 (d)] := (by rw [hw1]; exact Blk.new _ _ _); rw [← hw1] at h1 hbw; have H1 := Lib.hid h1; have er : w1.cell? ⟨P.b, P.off + 2 + a, none⟩ = some (.int .i64 (M.reg a)) := h1.cr a ha; have zr := h1.frozen (P.off + 2 + a); have e23 := h1.c23; have z23 := h1.frozen (P.off + 23); have e24 := h1.c24; have z24 := h1.frozen (P.off + 24); obtain ⟨Ai, ci, rfl, hci, hAi, hRi⟩ := h1.l.2.2.1; obtain ⟨Ao, co, rfl, hco, hAo, hRo⟩ := h1.l.2.2.2; have il := hB.il; have ol := hB.ol; have hlt := h1.lt; obtain ⟨zI, TI, FI⟩ := KI.open_; have i3 : (0 : Int) ≤ (a : Int) := (by omega); have i4 : (a : Int) < 16 := (by omega); have hne : P.b ≠ w1.heap.size := (by omega); obtain ⟨b, tt, pre, post, off, gm, gs, fx⟩ := P; dsimp only at *; have HAi := Lib.hid hAi; have HRi := Lib.hid hRi; have HAo := Lib.hid hAo; have HRo := Lib.hid hRo; have HCi := Lib.hid hci; have HCo := Lib.hid hco; clear h h1 hB KI hAi hRi hAo hRo hci hco
  clear hf
  go_enter Tryz.func96, Tryz.ntmps96; go_wp2_with fail; rw [← hw1]; clear hw1; go_quiet (fail)
  go_wp2_with fail; go_ret; exact ⟨rfl, H1.out.matE rfl, by repeat' (first | with_reducible (first | assumption | apply Fr.refl | apply Fr.drew | apply Fr.drewN | apply Fr.alloc | apply Fr.set) | exact .inl rfl | exact .inr (.inl rfl) | exact .inr (.inr rfl) | (apply Fr.of; assumption))⟩

theorem unread_ok (h : MOn w P M vm vs vc vi vo sv) (hB : MBd M) (a : Nat) (ha : a < 16) (i c d : Int) (hf : M.inp.length < 4096) :
    Calls Tryz.prog 96 #[.pointer (some ⟨P.b, P.off, none⟩), .agg #[.int .u8 (18), .int .i64 ((a : Nat)), .int .i64 (i), .int .i64 (c), .int .i64 (d)]] w fun e w' => e = .returned (.int .i64 0) ∧ MAt w' P ((M.setR a 0).setIn (M.reg a :: M.inp)) ∧ Fr P.O w w' := by
  have hf' : decide (4096 ≤ (M.inp.length : Int)) = false := by simp; omega
  have h1 := h.next ((Below.refl _ _).alloc (Nat.le_refl _) (.cells #[.int .u8 (18), .int .i64 (a), .int .i64 (i), .int .i64 (c), .int .i64 (d)] 102)); have hbw : Below w.heap.size w (w.alloc (.cells #[.int .u8 (18), .int .i64 (a), .int .i64 (i), .int .i64 (c), .int .i64 (d)] 102)) := (Below.refl _ _).alloc (Nat.le_refl _) _; obtain ⟨w1, hw1⟩ : ∃ w1, w1 = w.alloc (.cells #[.int .u8 (18), .int .i64 (a), .int .i64 (i), .int .i64 (c), .int .i64 (d)] 102) := ⟨_, rfl⟩; have KI : Blk w1 w.heap.size 102 #[.int .u8 (18), .int .i64 (a), .int .i64 (i), .int .i64 (c), .int .i64 (d)] := (by rw [hw1]; exact Blk.new _ _ _); rw [← hw1] at h1 hbw; have H1 := Lib.hid h1; have er : w1.cell? ⟨P.b, P.off + 2 + a, none⟩ = some (.int .i64 (M.reg a)) := h1.cr a ha; have zr := h1.frozen (P.off + 2 + a); have e23 := h1.c23; have z23 := h1.frozen (P.off + 23); have e24 := h1.c24; have z24 := h1.frozen (P.off + 24); obtain ⟨Ai, ci, rfl, hci, hAi, hRi⟩ := h1.l.2.2.1; obtain ⟨Ao, co, rfl, hco, hAo, hRo⟩ := h1.l.2.2.2; have il := hB.il; have ol := hB.ol; have hlt := h1.lt; obtain ⟨zI, TI, FI⟩ := KI.open_; have i3 : (0 : Int) ≤ (a : Int) := (by omega); have i4 : (a : Int) < 16 := (by omega); have hne : P.b ≠ w1.heap.size := (by omega); obtain ⟨b, tt, pre, post, off, gm, gs, fx⟩ := P; dsimp only at *; have HAi := Lib.hid hAi; have HRi := Lib.hid hRi; have HAo := Lib.hid hAo; have HRo := Lib.hid hRo; have HCi := Lib.hid hci; have HCo := Lib.hid hco; clear h h1 hB KI hAi hRi hAo hRo hci hco
  clear hf
  go_enter Tryz.func96, Tryz.ntmps96; go_wp2_with fail; rw [← hw1]; clear hw1; go_quiet (fail)
  go_wp2_with fail
  have na : ∀ (k : Nat) (p : Obj) (o : Nat), ((w1.drewN k).alloc p).cell? ⟨b, o, none⟩ = w1.cell? ⟨b, o, none⟩ := fun k p o => cell_up hlt ((drewN_ (Below.refl _ _) k).alloc (Nat.le_refl _) _)
  go_region_law (first | (obtain ⟨i2, li, lz, ls, lb⟩ := info_parts info_intP; refine step_cons Tryz.underlying46 li lz ls lb rfl (.tmp 102) (.tmp 106) rfl w1.heap.size (M.reg a) (by simp [Act.eval]) (by exact (Blk.new' rfl _ _).cell 0) (by simp) Ai M.inp.length ci M.inp (by simp [Act.eval]) HAi.out HCi.out (HRi.out.keep fun b' o hd => cell_up hd.1 (by repeat' (first | (with_reducible assumption) | (with_reducible exact Below.refl _ _) | (with_reducible refine Below.alloc ?_ ?_ _) | (with_reducible refine Bk.drewN_ ?_ _) | (with_reducible refine Below.drew ?_) | (with_reducible refine Below.setCell ?_ ?_ _) | go_size))) (by omega) ?_; intro g2 c2 w2 hS2 hb2; have hB2 : Below w1.heap.size w1 w2 := Below.next (by repeat' (first | (with_reducible assumption) | (with_reducible exact Below.refl _ _) | (with_reducible refine Below.alloc ?_ ?_ _) | (with_reducible refine Bk.drewN_ ?_ _) | (with_reducible refine Below.drew ?_) | (with_reducible refine Below.setCell ?_ ?_ _) | go_size)) hb2; obtain ⟨hc2, hf2⟩ := bcell hB2; have HS2 := Lib.hid hS2; have HB2 := Lib.hid hB2; have hBw2 := hbw.next hB2; clear hS2 hb2))
  clear na
  all_goals (go_wp2_with fail; go_ret; exact ⟨rfl, (((H1.out.next HB2.out).setIn _ (M.reg a :: M.inp) (by rw [List.length_cons]; exact HS2.out.mono fun k hk => H1.out.fresh hk.1 hk.2)).setReg a ha 0).matE rfl, by repeat' (first | with_reducible (first | assumption | apply Fr.refl | apply Fr.drew | apply Fr.drewN | apply Fr.alloc | apply Fr.set) | exact .inl rfl | exact .inr (.inl rfl) | exact .inr (.inr rfl) | (apply Fr.of; assumption))⟩)
theorem write_full (h : MOn w P M vm vs vc vi vo sv) (hB : MBd M) (a : Nat) (ha : a < 16) (i c d : Int) (hf : 4096 ≤ M.out.length) :
    Calls Tryz.prog 96 #[.pointer (some ⟨P.b, P.off, none⟩), .agg #[.int .u8 (19), .int .i64 ((a : Nat)), .int .i64 (i), .int .i64 (c), .int .i64 (d)]] w fun e w' => e = .returned (.int .i64 5) ∧ MAt w' P M ∧ Fr P.O w w' := by
  have hf' : decide (4096 ≤ (M.out.length : Int)) = true := by simp; omega
  have h1 := h.next ((Below.refl _ _).alloc (Nat.le_refl _) (.cells #[.int .u8 (19), .int .i64 (a), .int .i64 (i), .int .i64 (c), .int .i64 (d)] 102)); have hbw : Below w.heap.size w (w.alloc (.cells #[.int .u8 (19), .int .i64 (a), .int .i64 (i), .int .i64 (c), .int .i64 (d)] 102)) := (Below.refl _ _).alloc (Nat.le_refl _) _; obtain ⟨w1, hw1⟩ : ∃ w1, w1 = w.alloc (.cells #[.int .u8 (19), .int .i64 (a), .int .i64 (i), .int .i64 (c), .int .i64 (d)] 102) := ⟨_, rfl⟩; have KI : Blk w1 w.heap.size 102 #[.int .u8 (19), .int .i64 (a), .int .i64 (i), .int .i64 (c), .int .i64 (d)] := (by rw [hw1]; exact Blk.new _ _ _); rw [← hw1] at h1 hbw; have H1 := Lib.hid h1; have er : w1.cell? ⟨P.b, P.off + 2 + a, none⟩ = some (.int .i64 (M.reg a)) := h1.cr a ha; have zr := h1.frozen (P.off + 2 + a); have e23 := h1.c23; have z23 := h1.frozen (P.off + 23); have e24 := h1.c24; have z24 := h1.frozen (P.off + 24); obtain ⟨Ai, ci, rfl, hci, hAi, hRi⟩ := h1.l.2.2.1; obtain ⟨Ao, co, rfl, hco, hAo, hRo⟩ := h1.l.2.2.2; have il := hB.il; have ol := hB.ol; have hlt := h1.lt; obtain ⟨zI, TI, FI⟩ := KI.open_; have i3 : (0 : Int) ≤ (a : Int) := (by omega); have i4 : (a : Int) < 16 := (by omega); have hne : P.b ≠ w1.heap.size := (by omega); obtain ⟨b, tt, pre, post, off, gm, gs, fx⟩ := P; dsimp only at *; have HAi := Lib.hid hAi; have HRi := Lib.hid hRi; have HAo := Lib.hid hAo; have HRo := Lib.hid hRo; have HCi := Lib.hid hci; have HCo := Lib.hid hco; clear h h1 hB KI hAi hRi hAo hRo hci hco
  clear hf
  go_enter Tryz.func96, Tryz.ntmps96; go_wp2_with fail; rw [← hw1]; clear hw1; go_quiet (fail)
  go_wp2_with fail; go_ret; exact ⟨rfl, H1.out.matE rfl, by repeat' (first | with_reducible (first | assumption | apply Fr.refl | apply Fr.drew | apply Fr.drewN | apply Fr.alloc | apply Fr.set) | exact .inl rfl | exact .inr (.inl rfl) | exact .inr (.inr rfl) | (apply Fr.of; assumption))⟩
theorem read_none (h : MOn w P M vm vs vc vi vo sv) (hB : MBd M) (a : Nat) (ha : a < 16) (i c d : Int) (hf : M.inp.length = 0) :
    Calls Tryz.prog 96 #[.pointer (some ⟨P.b, P.off, none⟩), .agg #[.int .u8 (17), .int .i64 ((a : Nat)), .int .i64 (i), .int .i64 (c), .int .i64 (d)]] w fun e w' => e = .returned (.int .i64 17) ∧ MAt w' P M ∧ Fr P.O w w' := by
  have HZ := Lib.hid hf; clear hf
  have h1 := h.next ((Below.refl _ _).alloc (Nat.le_refl _) (.cells #[.int .u8 (17), .int .i64 (a), .int .i64 (i), .int .i64 (c), .int .i64 (d)] 102)); have hbw : Below w.heap.size w (w.alloc (.cells #[.int .u8 (17), .int .i64 (a), .int .i64 (i), .int .i64 (c), .int .i64 (d)] 102)) := (Below.refl _ _).alloc (Nat.le_refl _) _; obtain ⟨w1, hw1⟩ : ∃ w1, w1 = w.alloc (.cells #[.int .u8 (17), .int .i64 (a), .int .i64 (i), .int .i64 (c), .int .i64 (d)] 102) := ⟨_, rfl⟩; have KI : Blk w1 w.heap.size 102 #[.int .u8 (17), .int .i64 (a), .int .i64 (i), .int .i64 (c), .int .i64 (d)] := (by rw [hw1]; exact Blk.new _ _ _); rw [← hw1] at h1 hbw; have H1 := Lib.hid h1; have er : w1.cell? ⟨P.b, P.off + 2 + a, none⟩ = some (.int .i64 (M.reg a)) := h1.cr a ha; have zr := h1.frozen (P.off + 2 + a); have e23 := h1.c23; have z23 := h1.frozen (P.off + 23); have e24 := h1.c24; have z24 := h1.frozen (P.off + 24); obtain ⟨Ai, ci, rfl, hci, hAi, hRi⟩ := h1.l.2.2.1; obtain ⟨Ao, co, rfl, hco, hAo, hRo⟩ := h1.l.2.2.2; have il := hB.il; have ol := hB.ol; have hlt := h1.lt; obtain ⟨zI, TI, FI⟩ := KI.open_; have i3 : (0 : Int) ≤ (a : Int) := (by omega); have i4 : (a : Int) < 16 := (by omega); have hne : P.b ≠ w1.heap.size := (by omega); obtain ⟨b, tt, pre, post, off, gm, gs, fx⟩ := P; dsimp only at *; have HAi := Lib.hid hAi; have HRi := Lib.hid hRi; have HAo := Lib.hid hAo; have HRo := Lib.hid hRo; have HCi := Lib.hid hci; have HCo := Lib.hid hco; clear h h1 hB KI hAi hRi hAo hRo hci hco
  rw [HZ.out] at e23
  go_enter Tryz.func96, Tryz.ntmps96; go_wp2_with fail; rw [← hw1]; clear hw1; go_quiet (fail)
  go_wp2_with fail; go_ret; exact ⟨rfl, H1.out.matE rfl, by repeat' (first | with_reducible (first | assumption | apply Fr.refl | apply Fr.drew | apply Fr.drewN | apply Fr.alloc | apply Fr.set) | exact .inl rfl | exact .inr (.inl rfl) | exact .inr (.inr rfl) | (apply Fr.of; assumption))⟩
theorem read_clear (h : MOn w P M vm vs vc vi vo sv) (hB : MBd M) (a : Nat) (ha : a < 16) (i c d : Int) (hf : M.inp.length ≠ 0) (hr : M.reg a ≠ 0) :
    Calls Tryz.prog 96 #[.pointer (some ⟨P.b, P.off, none⟩), .agg #[.int .u8 (17), .int .i64 ((a : Nat)), .int .i64 (i), .int .i64 (c), .int .i64 (d)]] w fun e w' => e = .returned (.int .i64 14) ∧ MAt w' P M ∧ Fr P.O w w' := by
  have hf' : ((M.inp.length : Int) == 0) = false := by rw [beq_eq_false_iff_ne]; omega
  have hr' : (M.reg a != 0) = true := by simpa using hr
  have h1 := h.next ((Below.refl _ _).alloc (Nat.le_refl _) (.cells #[.int .u8 (17), .int .i64 (a), .int .i64 (i), .int .i64 (c), .int .i64 (d)] 102)); have hbw : Below w.heap.size w (w.alloc (.cells #[.int .u8 (17), .int .i64 (a), .int .i64 (i), .int .i64 (c), .int .i64 (d)] 102)) := (Below.refl _ _).alloc (Nat.le_refl _) _; obtain ⟨w1, hw1⟩ : ∃ w1, w1 = w.alloc (.cells #[.int .u8 (17), .int .i64 (a), .int .i64 (i), .int .i64 (c), .int .i64 (d)] 102) := ⟨_, rfl⟩; have KI : Blk w1 w.heap.size 102 #[.int .u8 (17), .int .i64 (a), .int .i64 (i), .int .i64 (c), .int .i64 (d)] := (by rw [hw1]; exact Blk.new _ _ _); rw [← hw1] at h1 hbw; have H1 := Lib.hid h1; have er : w1.cell? ⟨P.b, P.off + 2 + a, none⟩ = some (.int .i64 (M.reg a)) := h1.cr a ha; have zr := h1.frozen (P.off + 2 + a); have e23 := h1.c23; have z23 := h1.frozen (P.off + 23); have e24 := h1.c24; have z24 := h1.frozen (P.off + 24); obtain ⟨Ai, ci, rfl, hci, hAi, hRi⟩ := h1.l.2.2.1; obtain ⟨Ao, co, rfl, hco, hAo, hRo⟩ := h1.l.2.2.2; have il := hB.il; have ol := hB.ol; have hlt := h1.lt; obtain ⟨zI, TI, FI⟩ := KI.open_; have i3 : (0 : Int) ≤ (a : Int) := (by omega); have i4 : (a : Int) < 16 := (by omega); have hne : P.b ≠ w1.heap.size := (by omega); obtain ⟨b, tt, pre, post, off, gm, gs, fx⟩ := P; dsimp only at *; have HAi := Lib.hid hAi; have HRi := Lib.hid hRi; have HAo := Lib.hid hAo; have HRo := Lib.hid hRo; have HCi := Lib.hid hci; have HCo := Lib.hid hco; clear h h1 hB KI hAi hRi hAo hRo hci hco
  clear hf hr
  go_enter Tryz.func96, Tryz.ntmps96; go_wp2_with fail; rw [← hw1]; clear hw1; go_quiet (fail)
  go_wp2_with fail; go_ret; exact ⟨rfl, H1.out.matE rfl, by repeat' (first | with_reducible (first | assumption | apply Fr.refl | apply Fr.drew | apply Fr.drewN | apply Fr.alloc | apply Fr.set) | exact .inl rfl | exact .inr (.inl rfl) | exact .inr (.inr rfl) | (apply Fr.of; assumption))⟩
theorem unwrite_none (h : MOn w P M vm vs vc vi vo sv) (hB : MBd M) (a : Nat) (ha : a < 16) (i c d : Int) (hf : M.out.length = 0) :
    Calls Tryz.prog 96 #[.pointer (some ⟨P.b, P.off, none⟩), .agg #[.int .u8 (20), .int .i64 ((a : Nat)), .int .i64 (i), .int .i64 (c), .int .i64 (d)]] w fun e w' => e = .returned (.int .i64 17) ∧ MAt w' P M ∧ Fr P.O w w' := by
  have HZ := Lib.hid hf; clear hf
  have h1 := h.next ((Below.refl _ _).alloc (Nat.le_refl _) (.cells #[.int .u8 (20), .int .i64 (a), .int .i64 (i), .int .i64 (c), .int .i64 (d)] 102)); have hbw : Below w.heap.size w (w.alloc (.cells #[.int .u8 (20), .int .i64 (a), .int .i64 (i), .int .i64 (c), .int .i64 (d)] 102)) := (Below.refl _ _).alloc (Nat.le_refl _) _; obtain ⟨w1, hw1⟩ : ∃ w1, w1 = w.alloc (.cells #[.int .u8 (20), .int .i64 (a), .int .i64 (i), .int .i64 (c), .int .i64 (d)] 102) := ⟨_, rfl⟩; have KI : Blk w1 w.heap.size 102 #[.int .u8 (20), .int .i64 (a), .int .i64 (i), .int .i64 (c), .int .i64 (d)] := (by rw [hw1]; exact Blk.new _ _ _); rw [← hw1] at h1 hbw; have H1 := Lib.hid h1; have er : w1.cell? ⟨P.b, P.off + 2 + a, none⟩ = some (.int .i64 (M.reg a)) := h1.cr a ha; have zr := h1.frozen (P.off + 2 + a); have e23 := h1.c23; have z23 := h1.frozen (P.off + 23); have e24 := h1.c24; have z24 := h1.frozen (P.off + 24); obtain ⟨Ai, ci, rfl, hci, hAi, hRi⟩ := h1.l.2.2.1; obtain ⟨Ao, co, rfl, hco, hAo, hRo⟩ := h1.l.2.2.2; have il := hB.il; have ol := hB.ol; have hlt := h1.lt; obtain ⟨zI, TI, FI⟩ := KI.open_; have i3 : (0 : Int) ≤ (a : Int) := (by omega); have i4 : (a : Int) < 16 := (by omega); have hne : P.b ≠ w1.heap.size := (by omega); obtain ⟨b, tt, pre, post, off, gm, gs, fx⟩ := P; dsimp only at *; have HAi := Lib.hid hAi; have HRi := Lib.hid hRi; have HAo := Lib.hid hAo; have HRo := Lib.hid hRo; have HCi := Lib.hid hci; have HCo := Lib.hid hco; clear h h1 hB KI hAi hRi hAo hRo hci hco
  rw [HZ.out] at e24
  go_enter Tryz.func96, Tryz.ntmps96; go_wp2_with fail; rw [← hw1]; clear hw1; go_quiet (fail)
  go_wp2_with fail; go_ret; exact ⟨rfl, H1.out.matE rfl, by repeat' (first | with_reducible (first | assumption | apply Fr.refl | apply Fr.drew | apply Fr.drewN | apply Fr.alloc | apply Fr.set) | exact .inl rfl | exact .inr (.inl rfl) | exact .inr (.inr rfl) | (apply Fr.of; assumption))⟩
theorem unwrite_clear (h : MOn w P M vm vs vc vi vo sv) (hB : MBd M) (a : Nat) (ha : a < 16) (i c d : Int) (hf : M.out.length ≠ 0) (hr : M.reg a ≠ 0) :
    Calls Tryz.prog 96 #[.pointer (some ⟨P.b, P.off, none⟩), .agg #[.int .u8 (20), .int .i64 ((a : Nat)), .int .i64 (i), .int .i64 (c), .int .i64 (d)]] w fun e w' => e = .returned (.int .i64 14) ∧ MAt w' P M ∧ Fr P.O w w' := by
  obtain ⟨m, hm⟩ : ∃ m, M.out.length = m + 1 := ⟨M.out.length - 1, by omega⟩
  have hr' : (M.reg a != 0) = true := by simpa using hr
  have HM1 := Lib.hid hm
  have h1 := h.next ((Below.refl _ _).alloc (Nat.le_refl _) (.cells #[.int .u8 (20), .int .i64 (a), .int .i64 (i), .int .i64 (c), .int .i64 (d)] 102)); have hbw : Below w.heap.size w (w.alloc (.cells #[.int .u8 (20), .int .i64 (a), .int .i64 (i), .int .i64 (c), .int .i64 (d)] 102)) := (Below.refl _ _).alloc (Nat.le_refl _) _; obtain ⟨w1, hw1⟩ : ∃ w1, w1 = w.alloc (.cells #[.int .u8 (20), .int .i64 (a), .int .i64 (i), .int .i64 (c), .int .i64 (d)] 102) := ⟨_, rfl⟩; have KI : Blk w1 w.heap.size 102 #[.int .u8 (20), .int .i64 (a), .int .i64 (i), .int .i64 (c), .int .i64 (d)] := (by rw [hw1]; exact Blk.new _ _ _); rw [← hw1] at h1 hbw; have H1 := Lib.hid h1; have er : w1.cell? ⟨P.b, P.off + 2 + a, none⟩ = some (.int .i64 (M.reg a)) := h1.cr a ha; have zr := h1.frozen (P.off + 2 + a); have e23 := h1.c23; have z23 := h1.frozen (P.off + 23); have e24 := h1.c24; have z24 := h1.frozen (P.off + 24); obtain ⟨Ai, ci, rfl, hci, hAi, hRi⟩ := h1.l.2.2.1; obtain ⟨Ao, co, rfl, hco, hAo, hRo⟩ := h1.l.2.2.2; have il := hB.il; have ol := hB.ol; have hlt := h1.lt; obtain ⟨zI, TI, FI⟩ := KI.open_; have i3 : (0 : Int) ≤ (a : Int) := (by omega); have i4 : (a : Int) < 16 := (by omega); have hne : P.b ≠ w1.heap.size := (by omega); obtain ⟨b, tt, pre, post, off, gm, gs, fx⟩ := P; dsimp only at *; have HAi := Lib.hid hAi; have HRi := Lib.hid hRi; have HAo := Lib.hid hAo; have HRo := Lib.hid hRo; have HCi := Lib.hid hci; have HCo := Lib.hid hco; clear h h1 hB KI hAi hRi hAo hRo hci hco
  rw [HM1.out] at e24 ol
  clear hf hr hm
  go_enter Tryz.func96, Tryz.ntmps96; go_wp2_with fail; rw [← hw1]; clear hw1; go_quiet (fail)
  go_wp2_with fail; go_ret; exact ⟨rfl, H1.out.matE rfl, by repeat' (first | with_reducible (first | assumption | apply Fr.refl | apply Fr.drew | apply Fr.drewN | apply Fr.alloc | apply Fr.set) | exact .inl rfl | exact .inr (.inl rfl) | exact .inr (.inr rfl) | (apply Fr.of; assumption))⟩
theorem unwrite_ok (h : MOn w P M vm vs vc vi vo sv) (hB : MBd M) (a : Nat) (ha : a < 16) (i c d : Int) (hf : M.out.length ≠ 0) (hr : M.reg a = 0) :
    Calls Tryz.prog 96 #[.pointer (some ⟨P.b, P.off, none⟩), .agg #[.int .u8 (20), .int .i64 ((a : Nat)), .int .i64 (i), .int .i64 (c), .int .i64 (d)]] w fun e w' => e = .returned (.int .i64 0) ∧ MAt w' P ((M.setR a (M.out.getLastD 0)).setOut M.out.dropLast) ∧ Fr P.O w w' := by
  obtain ⟨m, hm⟩ : ∃ m, M.out.length = m + 1 := ⟨M.out.length - 1, by omega⟩
  have HM1 := Lib.hid hm
  have HZ := Lib.hid hr
  have h1 := h.next ((Below.refl _ _).alloc (Nat.le_refl _) (.cells #[.int .u8 (20), .int .i64 (a), .int .i64 (i), .int .i64 (c), .int .i64 (d)] 102)); have hbw : Below w.heap.size w (w.alloc (.cells #[.int .u8 (20), .int .i64 (a), .int .i64 (i), .int .i64 (c), .int .i64 (d)] 102)) := (Below.refl _ _).alloc (Nat.le_refl _) _; obtain ⟨w1, hw1⟩ : ∃ w1, w1 = w.alloc (.cells #[.int .u8 (20), .int .i64 (a), .int .i64 (i), .int .i64 (c), .int .i64 (d)] 102) := ⟨_, rfl⟩; have KI : Blk w1 w.heap.size 102 #[.int .u8 (20), .int .i64 (a), .int .i64 (i), .int .i64 (c), .int .i64 (d)] := (by rw [hw1]; exact Blk.new _ _ _); rw [← hw1] at h1 hbw; have H1 := Lib.hid h1; have er : w1.cell? ⟨P.b, P.off + 2 + a, none⟩ = some (.int .i64 (M.reg a)) := h1.cr a ha; have zr := h1.frozen (P.off + 2 + a); have e23 := h1.c23; have z23 := h1.frozen (P.off + 23); have e24 := h1.c24; have z24 := h1.frozen (P.off + 24); obtain ⟨Ai, ci, rfl, hci, hAi, hRi⟩ := h1.l.2.2.1; obtain ⟨Ao, co, rfl, hco, hAo, hRo⟩ := h1.l.2.2.2; have il := hB.il; have ol := hB.ol; have hlt := h1.lt; obtain ⟨zI, TI, FI⟩ := KI.open_; have i3 : (0 : Int) ≤ (a : Int) := (by omega); have i4 : (a : Int) < 16 := (by omega); have hne : P.b ≠ w1.heap.size := (by omega); obtain ⟨b, tt, pre, post, off, gm, gs, fx⟩ := P; dsimp only at *; have HAi := Lib.hid hAi; have HRi := Lib.hid hRi; have HAo := Lib.hid hAo; have HRo := Lib.hid hRo; have HCi := Lib.hid hci; have HCo := Lib.hid hco; clear h h1 hB KI hAi hRi hAo hRo hci hco
  rw [HM1.out] at e24 ol
  rw [HZ.out] at er
  have hRo := HRo.out
  rw [HM1.out] at hRo
  obtain ⟨bs, os, rfl, _, hcell⟩ := hRo.2 (by omega)
  have el := hcell m _ (intCells_get M.out m (by omega))
  rw [last_get hm] at el
  generalize hlv : M.out.getLastD 0 = lv at *
  have HLV := Lib.hid hlv
  have j1 : (0 : Int) ≤ (m : Int) := by omega
  have j2 : (m : Int) < (m : Int) + 1 := by omega
  have hcs : m + 1 ≤ co := by have := HCo.out; have := HM1.out; omega
  have hcs' : m ≤ co := by omega
  have HRo' := Lib.hid hRo
  clear hf hr hm hcell hlv hRo
  go_enter Tryz.func96, Tryz.ntmps96; go_wp2_with fail; rw [← hw1]; clear hw1; go_quiet (fail)
  go_wp2_with fail
  go_region
  go_wp2_with fail
  go_ret
  exact ⟨rfl, ((H1.out.setReg a ha _).setOut _ _ ((Sl.pop HM1.out hcs HAo.out HRo'.out).keep MOn.keep1 MOn.dset)).matE rfl, by repeat' (first | with_reducible (first | assumption | apply Fr.refl | apply Fr.drew | apply Fr.drewN | apply Fr.alloc | apply Fr.set) | exact .inl rfl | exact .inr (.inl rfl) | exact .inr (.inr rfl) | (apply Fr.of; assumption))⟩

theorem write_ok (h : MOn w P M vm vs vc vi vo sv) (hB : MBd M) (a : Nat) (ha : a < 16) (i c d : Int) (hf : M.out.length < 4096) :
    Calls Tryz.prog 96 #[.pointer (some ⟨P.b, P.off, none⟩), .agg #[.int .u8 (19), .int .i64 ((a : Nat)), .int .i64 (i), .int .i64 (c), .int .i64 (d)]] w fun e w' => e = .returned (.int .i64 0) ∧ MAt w' P ((M.setR a 0).setOut (M.out ++ [M.reg a])) ∧ Fr P.O w w' := by
  have hf' : decide (4096 ≤ (M.out.length : Int)) = false := by simp; omega
  have h1 := h.next ((Below.refl _ _).alloc (Nat.le_refl _) (.cells #[.int .u8 (19), .int .i64 (a), .int .i64 (i), .int .i64 (c), .int .i64 (d)] 102)); have hbw : Below w.heap.size w (w.alloc (.cells #[.int .u8 (19), .int .i64 (a), .int .i64 (i), .int .i64 (c), .int .i64 (d)] 102)) := (Below.refl _ _).alloc (Nat.le_refl _) _; obtain ⟨w1, hw1⟩ : ∃ w1, w1 = w.alloc (.cells #[.int .u8 (19), .int .i64 (a), .int .i64 (i), .int .i64 (c), .int .i64 (d)] 102) := ⟨_, rfl⟩; have KI : Blk w1 w.heap.size 102 #[.int .u8 (19), .int .i64 (a), .int .i64 (i), .int .i64 (c), .int .i64 (d)] := (by rw [hw1]; exact Blk.new _ _ _); rw [← hw1] at h1 hbw; have H1 := Lib.hid h1; have er : w1.cell? ⟨P.b, P.off + 2 + a, none⟩ = some (.int .i64 (M.reg a)) := h1.cr a ha; have zr := h1.frozen (P.off + 2 + a); have e23 := h1.c23; have z23 := h1.frozen (P.off + 23); have e24 := h1.c24; have z24 := h1.frozen (P.off + 24); obtain ⟨Ai, ci, rfl, hci, hAi, hRi⟩ := h1.l.2.2.1; obtain ⟨Ao, co, rfl, hco, hAo, hRo⟩ := h1.l.2.2.2; have il := hB.il; have ol := hB.ol; have hlt := h1.lt; obtain ⟨zI, TI, FI⟩ := KI.open_; have i3 : (0 : Int) ≤ (a : Int) := (by omega); have i4 : (a : Int) < 16 := (by omega); have hne : P.b ≠ w1.heap.size := (by omega); obtain ⟨b, tt, pre, post, off, gm, gs, fx⟩ := P; dsimp only at *; have HAi := Lib.hid hAi; have HRi := Lib.hid hRi; have HAo := Lib.hid hAo; have HRo := Lib.hid hRo; have HCi := Lib.hid hci; have HCo := Lib.hid hco; clear h h1 hB KI hAi hRi hAo hRo hci hco
  clear hf
  go_enter Tryz.func96, Tryz.ntmps96; go_wp2_with fail; rw [← hw1]; clear hw1; go_quiet (fail)
  go_wp2_with fail
  have na : ∀ (k : Nat) (p : Obj) (o : Nat), ((w1.drewN k).alloc p).cell? ⟨b, o, none⟩ = w1.cell? ⟨b, o, none⟩ := fun k p o => cell_up hlt ((drewN_ (Below.refl _ _) k).alloc (Nat.le_refl _) _)
  have hCo2 := HCo.out
  go_region_law (first | (refine step_clip rfl 118 _ rfl Ao M.out.length co (by simp [Act.eval]) HCo.out HAo.out (by omega) ?_) | (refine step_push rfl (.tmp 119) (.tmp 123) rfl Ao M.out.length M.out (by simp [Act.eval]) (fun h => by have := HAo.out h; have := HCo.out; omega) (HRo.out.keep fun b' o hd => cell_up hd.1 (by repeat' (first | (with_reducible assumption) | (with_reducible exact Below.refl _ _) | (with_reducible refine Below.alloc ?_ ?_ _) | (with_reducible refine Bk.drewN_ ?_ _) | (with_reducible refine Below.drew ?_) | (with_reducible refine Below.setCell ?_ ?_ _) | go_size))) (by omega) w1.heap.size (M.reg a) (by simp [Act.eval]) (by exact (Blk.new' rfl _ _).cell 0) ?_; intro g2 c2 w2 hS2 hb2; have hB2 : Below w1.heap.size w1 w2 := Below.next (by repeat' (first | (with_reducible assumption) | (with_reducible exact Below.refl _ _) | (with_reducible refine Below.alloc ?_ ?_ _) | (with_reducible refine Bk.drewN_ ?_ _) | (with_reducible refine Below.drew ?_) | (with_reducible refine Below.setCell ?_ ?_ _) | go_size)) hb2; obtain ⟨hc2, hf2⟩ := bcell hB2; have HS2 := Lib.hid hS2; have HB2 := Lib.hid hB2; have hBw2 := hbw.next hB2; clear hS2 hb2))
  clear na
  all_goals (go_wp2_with fail; go_ret; exact ⟨rfl, (((H1.out.next HB2.out).setOut _ (M.out ++ [M.reg a]) (by rw [List.length_append]; exact HS2.out.mono fun k hk => H1.out.fresh (by have := hk.1; simp at this; omega) hk.2)).setReg a ha 0).matE rfl, by repeat' (first | with_reducible (first | assumption | apply Fr.refl | apply Fr.drew | apply Fr.drewN | apply Fr.alloc | apply Fr.set) | exact .inl rfl | exact .inr (.inl rfl) | exact .inr (.inr rfl) | (apply Fr.of; assumption))⟩)

theorem tail_cells {l : List Int} {m : Nat} (h : l.length = m + 1) : ∃ x r, l = x :: r ∧ r.length = m := by
  cases l with
  | nil => simp at h
  | cons x r => exact ⟨x, r, rfl, by simpa using h⟩
theorem read_ok (h : MOn w P M vm vs vc vi vo sv) (hB : MBd M) (a : Nat) (ha : a < 16) (i c d : Int) (hf : M.inp.length ≠ 0) (hr : M.reg a = 0) :
    Calls Tryz.prog 96 #[.pointer (some ⟨P.b, P.off, none⟩), .agg #[.int .u8 (17), .int .i64 ((a : Nat)), .int .i64 (i), .int .i64 (c), .int .i64 (d)]] w fun e w' => e = .returned (.int .i64 0) ∧ MAt w' P ((M.setR a (M.inp.headD 0)).setIn M.inp.tail) ∧ Fr P.O w w' := by
  obtain ⟨m, hm⟩ : ∃ m, M.inp.length = m + 1 := ⟨M.inp.length - 1, by omega⟩
  obtain ⟨x, r, hxr, hrl⟩ := tail_cells hm
  have HM1 := Lib.hid hm
  have HZ := Lib.hid hr
  have HXR := Lib.hid hxr
  have HRL := Lib.hid hrl
  rw [hxr]
  show Calls Tryz.prog 96 #[.pointer (some ⟨P.b, P.off, none⟩), .agg #[.int .u8 (17), .int .i64 ((a : Nat)), .int .i64 (i), .int .i64 (c), .int .i64 (d)]] w fun e w' => e = .returned (.int .i64 0) ∧ MAt w' P ((M.setR a x).setIn r) ∧ Fr P.O w w'
  have h1 := h.next ((Below.refl _ _).alloc (Nat.le_refl _) (.cells #[.int .u8 (17), .int .i64 (a), .int .i64 (i), .int .i64 (c), .int .i64 (d)] 102)); have hbw : Below w.heap.size w (w.alloc (.cells #[.int .u8 (17), .int .i64 (a), .int .i64 (i), .int .i64 (c), .int .i64 (d)] 102)) := (Below.refl _ _).alloc (Nat.le_refl _) _; obtain ⟨w1, hw1⟩ : ∃ w1, w1 = w.alloc (.cells #[.int .u8 (17), .int .i64 (a), .int .i64 (i), .int .i64 (c), .int .i64 (d)] 102) := ⟨_, rfl⟩; have KI : Blk w1 w.heap.size 102 #[.int .u8 (17), .int .i64 (a), .int .i64 (i), .int .i64 (c), .int .i64 (d)] := (by rw [hw1]; exact Blk.new _ _ _); rw [← hw1] at h1 hbw; have H1 := Lib.hid h1; have er : w1.cell? ⟨P.b, P.off + 2 + a, none⟩ = some (.int .i64 (M.reg a)) := h1.cr a ha; have zr := h1.frozen (P.off + 2 + a); have e23 := h1.c23; have z23 := h1.frozen (P.off + 23); have e24 := h1.c24; have z24 := h1.frozen (P.off + 24); obtain ⟨Ai, ci, rfl, hci, hAi, hRi⟩ := h1.l.2.2.1; obtain ⟨Ao, co, rfl, hco, hAo, hRo⟩ := h1.l.2.2.2; have il := hB.il; have ol := hB.ol; have hlt := h1.lt; obtain ⟨zI, TI, FI⟩ := KI.open_; have i3 : (0 : Int) ≤ (a : Int) := (by omega); have i4 : (a : Int) < 16 := (by omega); have hne : P.b ≠ w1.heap.size := (by omega); obtain ⟨b, tt, pre, post, off, gm, gs, fx⟩ := P; dsimp only at *; have HAi := Lib.hid hAi; have HRi := Lib.hid hRi; have HAo := Lib.hid hAo; have HRo := Lib.hid hRo; have HCi := Lib.hid hci; have HCo := Lib.hid hco; clear h h1 hB KI hAi hRi hAo hRo hci hco
  rw [HM1.out] at e23 il
  rw [HZ.out] at er
  have hRi := HRi.out
  have hcii := HCi.out
  rw [HM1.out] at hRi hcii
  rw [HXR.out] at hRi
  obtain ⟨bs, os, rfl, _, hcell⟩ := hRi.2 (by omega)
  have el : w1.cell? ⟨bs, os, none⟩ = some (.int .i64 x) := hcell 0 _ rfl
  have hRr := hRi.drop1
  have j1 : (0 : Int) ≤ (m : Int) := by omega
  have HRr := Lib.hid hRr
  clear hf hr hm hcell hRi hxr hrl hRr
  by_cases hc1 : ci = 1
  · subst hc1
    obtain rfl : m = 0 := by omega
    have hr0 : r = [] := List.eq_nil_of_length_eq_zero HRL.out
    subst hr0
    clear hcii j1
    go_enter Tryz.func96, Tryz.ntmps96; go_wp2_with fail; rw [← hw1]; clear hw1; go_quiet (fail)
    go_wp2_with fail; go_region; go_wp2_with fail; go_ret
    exact ⟨rfl, ((H1.out.setReg a ha x).setIn _ [] ((Sl.empty (fun h => by cases h)))).matE rfl, by repeat' (first | with_reducible (first | assumption | apply Fr.refl | apply Fr.drew | apply Fr.drewN | apply Fr.alloc | apply Fr.set) | exact .inl rfl | exact .inr (.inl rfl) | exact .inr (.inr rfl) | (apply Fr.of; assumption))⟩
  · obtain ⟨cc, rfl⟩ : ∃ cc, ci = cc + 1 := ⟨ci - 1, by omega⟩
    have hcc : 0 < cc := by omega
    have hcc' : m ≤ cc := by omega
    clear hc1
    go_enter Tryz.func96, Tryz.ntmps96; go_wp2_with fail; rw [← hw1]; clear hw1; go_quiet (fail)
    go_wp2_with fail; go_region; go_wp2_with fail; go_ret
    exact ⟨rfl, ((H1.out.setReg a ha x).setIn _ r (Sl.keep ⟨some ⟨bs, os + 1, none⟩, cc, by rw [HRL.out], by rw [HRL.out]; exact hcc', (fun h => by cases h), by rw [HRL.out]; exact HRr.out⟩ MOn.keep1 MOn.dset)).matE rfl, by repeat' (first | with_reducible (first | assumption | apply Fr.refl | apply Fr.drew | apply Fr.drewN | apply Fr.alloc | apply Fr.set) | exact .inl rfl | exact .inr (.inl rfl) | exact .inr (.inr rfl) | (apply Fr.of; assumption))⟩
end Go.Proofs.YtbijhlgdilkopaaGreatDoor
