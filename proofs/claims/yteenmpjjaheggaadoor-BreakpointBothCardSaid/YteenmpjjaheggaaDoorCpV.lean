/- Several texts in one: CpuW FitsJ. -/
import Derived.Test.YteenmpjjaheggaaDoorCpT
import Derived.Test.YteenmpjjaheggaaDoorZFitsI
import Derived.Test.YteenmpjjaheggaaDoorMh
set_option linter.unusedVariables false
set_option linter.unusedSimpArgs false
/- The walks of cpu.Step, cpu.Back, cpu.Fits, on machines that fit. -/
set_option maxRecDepth 100000
set_option maxHeartbeats 8000000
set_option maxRecDepth 100000
set_option linter.unusedVariables false
namespace Go.Proofs.YteenmpjjaheggaaDoor
open Go.RowKit Bk
variable {w : World} {D : Nat → Prop} {P : Pl} {M : Mach} {vm vs vc vi vo : Value} {sv : List Value}
/-- fits holds where the machine fits. -/
theorem c_fitsT (h : MOn w P M vm vs vc vi vo sv) (A : Option Addr) (n cap : Nat) (im : Img) (hn : n = im.code.length) (hn6 : n ≤ 65536) (hf : Fit im M) (hB : MBd M) :
    Calls Tryd.prog 53 #[.agg #[.slice A n cap, .int .i64 im.mem, .int .i64 im.stacks], .pointer (some ⟨P.b, P.off, none⟩)] w fun e w' => e = .returned (.bool true) ∧ Below w.heap.size w w' :=
  c_fitsG h.rd A n cap im hn hn6 (by have := hB.sl; omega) (by have := hB.cl; omega) (fitsB_of hf)

theorem c_Step (h : MOn w P M vm vs vc vi vo sv) {A : Option Addr} {n : Nat} (cap : Nat) (im : Img) (hE : Env w P A n im.code) (hv : im.check.2 = 0) (hf : Fit im M) (hB : MBd M) :
    Calls Tryd.prog 31 #[.agg #[.slice A n cap, .int .i64 im.mem, .int .i64 im.stacks], .pointer (some ⟨P.b, P.off, none⟩)] w (OnM P (Bk.step im.code M) w) := by
  have HM := Lib.hid h; have HE := Lib.hid hE; have HV := Lib.hid hv; have HF := Lib.hid hf; have HB := Lib.hid hB
  obtain ⟨b, tt, pre, post, off, gm, gs, fx⟩ := P
  dsimp only at *
  clear h hE hv hf hB
  go_enter Tryd.func31, Tryd.ntmps31
  go_wp2_with fail
  refine (c_fitsT (HM.out.next (by go_grown)) A n cap im HE.out.hn (by have := HE.out.hl; have := HE.out.hn; omega) HF.out HB.out).mono ?_
  rintro e w2 ⟨rfl, hb2⟩
  have hB_w2 : Below w.heap.size w w2 := Below.next (by go_grown) hb2
  have K_1 : Blk w2 (w.heap.size) 32 #[.slice A n cap, .int .i64 im.mem, .int .i64 im.stacks] := Blk.next (by repeat' (first | with_reducible exact H_1.out | with_reducible exact K0_1 | (refine Blk.new' ?_ _ _; simp; done) | with_reducible refine Blk.alloc ?_ _ | with_reducible refine Blk.drewN ?_ _ | with_reducible refine Blk.drew ?_)) hb2; (try clear H_1); (try clear T_1); (try clear z_1); (try clear F_1); obtain ⟨z_1, T_1, F_1⟩ := K_1.open_; have H_1 := Lib.hid K_1; clear K_1
  clear hb2
  go_wp2_with fail
  refine (c_step (HM.out.next hB_w2) cap im (HE.out.next hB_w2) HV.out HF.out HB.out).mono ?_
  rintro e w3 ⟨rfl, hm3, hf3⟩
  go_wp2_with fail
  go_ret
  exact ⟨rfl, hm3, (Fr.of hB_w2).trans hf3⟩

theorem MBd.turn {M : Mach} (h : MBd M) : MBd M.turn := ⟨h.f0, h.f1, h.s0, h.s1, h.ml, h.sl, h.cl, h.il, h.ol, h.st⟩

/-- Directions that Turn is given: a step leaves a machine that fits. -/
theorem step_dir {im : Img} (hv : im.check.2 = 0) (hw : CodeWf im.code) {M : Mach} (hf : Fit im M) : (Bk.step im.code M).2.dir = 1 ∨ (Bk.step im.code M).2.dir = -1 := by
  by_cases h0 : (Bk.step im.code M).1 = 0
  · exact (step_undo hv hw hf (Prod.ext h0 rfl)).1.d
  · have : (Bk.step im.code M).2 = M := by
      rw [step_eq] at h0 ⊢
      have en : ∀ k, ErrB M (enter im.code M k) := fun k => by unfold enter; exact ErrB.ite (ErrB.self _ _) (ErrB.ite (ErrB.self _ _) (ErrB.ok _ _))
      have le : ∀ k, ErrB M (leave im.code M k) := fun k => by unfold leave; exact ErrB.ite (ErrB.self _ _) (ErrB.ite (ErrB.self _ _) (ErrB.ok _ _))
      have ju : ∀ k, ErrB M (jump im.code M k) := fun k => by unfold jump; exact ErrB.ite (ErrB.self _ _) (ErrB.ite (ErrB.ok _ _) (ErrB.ite (ErrB.ok _ _) (ErrB.self _ _)))
      exact ErrB.ite (ErrB.self _ _) (ErrB.ite (ErrB.self _ _) (ErrB.ite (ErrB.self _ _) (ErrB.ite (en _) (ErrB.ite (le _) (ErrB.ite (ju _) (ErrB.ite (ErrB.ok _ _) (ErrB.self _ _))))))) h0
    rw [this]; exact hf.d

theorem c_Back (h : MOn w P M vm vs vc vi vo sv) {A : Option Addr} {n : Nat} (cap : Nat) (im : Img) (hE : Env w P A n im.code) (hv : im.check.2 = 0) (hf : Fit im M) (hB : MBd M) :
    Calls Tryd.prog 32 #[.agg #[.slice A n cap, .int .i64 im.mem, .int .i64 im.stacks], .pointer (some ⟨P.b, P.off, none⟩)] w (OnM P ((Bk.step im.code M.turn).1, (Bk.step im.code M.turn).2.turn) w) := by
  have HM := Lib.hid h; have HE := Lib.hid hE; have HV := Lib.hid hv; have HF := Lib.hid hf; have HB := Lib.hid hB
  obtain ⟨ee, N, hst⟩ : ∃ ee N, Bk.step im.code M.turn = (ee, N) := ⟨_, _, rfl⟩
  have hnd : N.dir = 1 ∨ N.dir = -1 := by have := step_dir hv hE.hw hf.turn; rw [hst] at this; exact this
  rw [hst]
  have HS := Lib.hid hst; have HND := Lib.hid hnd
  obtain ⟨b, tt, pre, post, off, gm, gs, fx⟩ := P
  dsimp only at *
  clear h hE hv hf hB hst hnd
  go_enter Tryd.func32, Tryd.ntmps32
  go_wp2_with fail
  refine (c_fitsT (HM.out.next (by go_grown)) A n cap im HE.out.hn (by have := HE.out.hl; have := HE.out.hn; omega) HF.out HB.out).mono ?_
  rintro e w2 ⟨rfl, hb2⟩
  have hB_w2 : Below w.heap.size w w2 := Below.next (by go_grown) hb2
  have K_1 : Blk w2 (w.heap.size) 32 #[.slice A n cap, .int .i64 im.mem, .int .i64 im.stacks] := Blk.next (by repeat' (first | with_reducible exact H_1.out | with_reducible exact K0_1 | (refine Blk.new' ?_ _ _; simp; done) | with_reducible refine Blk.alloc ?_ _ | with_reducible refine Blk.drewN ?_ _ | with_reducible refine Blk.drew ?_)) hb2; (try clear H_1); (try clear T_1); (try clear z_1); (try clear F_1); obtain ⟨z_1, T_1, F_1⟩ := K_1.open_; have H_1 := Lib.hid K_1; clear K_1
  clear hb2
  go_wp2_with fail
  refine (c_Turn (HM.out.next hB_w2) HF.out.d).mono ?_
  rintro e w3 ⟨rfl, hm3, hf3⟩
  obtain ⟨vm3, vs3, vc3, vi3, vo3, sv3, h3⟩ := hm3
  have H3 := Lib.hid h3
  have F3 : Fr (Pl.O ⟨b, tt, pre, post, off, gm, gs, fx⟩) w w3 := (Fr.of hB_w2).trans hf3
  have KI := hf3.blk H_1.out (by rintro (e | e | e) <;> (have g1 := HM.out.lt; have g2 := HM.out.gm; have g3 := HM.out.gs; dsimp only at e g1 g2 g3; omega))
  clear T_1 z_1 F_1 H_1 h3 hf3
  obtain ⟨zI, TI, FI⟩ := KI.open_
  clear KI
  go_wp2_with fail
  refine (OnM.of (c_step H3.out cap im (HE.out.fr F3) HV.out HF.out.turn (MBd.turn HB.out)) HS.out.symm).mono ?_
  rintro e w4 ⟨rfl, hm4, hf4⟩
  obtain ⟨vm4, vs4, vc4, vi4, vo4, sv4, h4⟩ := hm4
  have F4 := F3.trans hf4
  clear hf4
  go_wp2_with fail
  refine (c_Turn h4 HND.out).mono ?_
  rintro e w5 ⟨rfl, hm5, hf5⟩
  go_wp2_with fail
  go_ret
  exact ⟨rfl, hm5, F4.trans hf5⟩

theorem c_FitsT (h : MOn w P M vm vs vc vi vo sv) {A : Option Addr} {n : Nat} (cap : Nat) (im : Img) (hE : Env w P A n im.code) (hv : im.check.2 = 0) (hf : Fit im M) (hB : MBd M) :
    Calls Tryd.prog 26 #[.agg #[.slice A n cap, .int .i64 im.mem, .int .i64 im.stacks], .pointer (some ⟨P.b, P.off, none⟩)] w fun e w' => e = .returned (.bool true) ∧ Below w.heap.size w w' := by
  have HM := Lib.hid h; have HE := Lib.hid hE; have HF := Lib.hid hf; have HB := Lib.hid hB
  have hva : im.valid = true := by unfold Img.valid; rw [hv]; rfl
  have HV := Lib.hid hva
  obtain ⟨b, tt, pre, post, off, gm, gs, fx⟩ := P
  dsimp only at *
  clear h hE hv hf hB hva
  go_enter Tryd.func26, Tryd.ntmps26
  go_wp2_with fail
  refine (c_imValid' A n cap im HV.out _ (HE.out.next (by go_grown)).rd HE.out.hw (HE.out.next (by go_grown)).hT).mono ?_
  rintro e w2 ⟨rfl, hb2⟩
  have hB_w2 : Below w.heap.size w w2 := Below.next (by go_grown) hb2
  have K_1 : Blk w2 (w.heap.size) 32 #[.slice A n cap, .int .i64 im.mem, .int .i64 im.stacks] := Blk.next (by repeat' (first | with_reducible exact H_1.out | with_reducible exact K0_1 | (refine Blk.new' ?_ _ _; simp; done) | with_reducible refine Blk.alloc ?_ _ | with_reducible refine Blk.drewN ?_ _ | with_reducible refine Blk.drew ?_)) hb2; (try clear H_1); (try clear T_1); (try clear z_1); (try clear F_1); obtain ⟨z_1, T_1, F_1⟩ := K_1.open_; have H_1 := Lib.hid K_1; clear K_1
  clear hb2
  go_wp2_with fail
  refine (c_fitsT (HM.out.next hB_w2) A n cap im HE.out.hn (by have := HE.out.hl; have := HE.out.hn; omega) HF.out HB.out).mono ?_
  rintro e w3 ⟨rfl, hb3⟩
  have hB_w3 : Below w.heap.size w w3 := Below.next hB_w2 hb3
  go_wp2_with fail
  go_ret
  exact ⟨rfl, hB_w3⟩
end Go.Proofs.YteenmpjjaheggaaDoor

/- cpu.Fits with both answers. -/
set_option maxRecDepth 100000
set_option maxHeartbeats 8000000
set_option linter.unusedVariables false
namespace Go.Proofs.YteenmpjjaheggaaDoor
open Go.RowKit Bk
/-- cpu.Fits. -/
theorem c_FitsG {w : World} {D : Nat → Prop} {b off : Nat} {M : Mach} {vm vs vc vi vo : Value} {sv : List Value} (h : MRd w D b off M vm vs vc vi vo sv) (A : Option Addr) (n cap : Nat) (im : Img) (hn : n = im.code.length) (hn6 : n ≤ 65536) (hms : M.s.length ≤ 1000000) (hcl : M.calls.length ≤ 20000000000000) (hC : Rd w (· < w.heap.size) 5 A n (codeCells im.code)) (hw : CodeWf im.code) (hTab : TableAt w) {v : Bool} (hv : (im.valid && fitsB im M) = v) :
    Calls Tryd.prog 26 #[.agg #[.slice A n cap, .int .i64 im.mem, .int .i64 im.stacks], .pointer (some ⟨b, off, none⟩)] w fun e w' => e = .returned (.bool v) ∧ Below w.heap.size w w' := by
  have HT := Lib.hid hTab; have HC := Lib.hid hC; have HM := Lib.hid h
  obtain ⟨u, hu⟩ : ∃ u, im.valid = u := ⟨_, rfl⟩
  obtain ⟨f, hf⟩ : ∃ f, fitsB im M = f := ⟨_, rfl⟩
  rw [hu, hf] at hv
  subst hv
  have HU := Lib.hid hu; have HF := Lib.hid hf; have HN := Lib.hid hn
  clear hTab hC h hu hf hn
  go_enter Tryd.func26, Tryd.ntmps26
  go_wp2_with fail
  refine (c_imValid' A n cap im HU.out _ (HC.out.next (by go_grown)) hw (HT.out.next (by go_grown))).mono ?_
  rintro e w2 ⟨rfl, hb2⟩
  have hB_w2 : Below w.heap.size w w2 := Below.next (by go_grown) hb2
  have K_1 : Blk w2 (w.heap.size) 32 #[.slice A n cap, .int .i64 im.mem, .int .i64 im.stacks] := Blk.next (by repeat' (first | with_reducible exact H_1.out | with_reducible exact K0_1 | (refine Blk.new' ?_ _ _; simp; done) | with_reducible refine Blk.alloc ?_ _ | with_reducible refine Blk.drewN ?_ _ | with_reducible refine Blk.drew ?_)) hb2; (try clear H_1); (try clear T_1); (try clear z_1); (try clear F_1); obtain ⟨z_1, T_1, F_1⟩ := K_1.open_; have H_1 := Lib.hid K_1; clear K_1
  clear hb2
  cases u with
  | false =>
    go_wp2_with fail
    go_ret
    exact ⟨rfl, hB_w2⟩
  | true =>
    go_wp2_with fail
    refine (c_fitsG (HM.out.next hB_w2) A n cap im HN.out hn6 hms hcl HF.out).mono ?_
    rintro e w3 ⟨rfl, hb3⟩
    have hB_w3 := hB_w2.next hb3
    go_wp2_with fail
    go_ret
    exact ⟨rfl, hB_w3⟩
end Go.Proofs.YteenmpjjaheggaaDoor
