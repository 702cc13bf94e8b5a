/- Several texts in one: CpuT FitsI CpuWs EgRun. -/
import Derived.Test.YtbijhlgdilkopaaGreatDoorCpP
import Derived.Test.YtbijhlgdilkopaaGreatDoorCpR
import Derived.Test.YtbijhlgdilkopaaGreatDoorZFitsH
import Derived.Test.YtbijhlgdilkopaaGreatDoorZPartner
import Derived.Test.YtbijhlgdilkopaaGreatDoorMh
import Derived.Test.YtbijhlgdilkopaaGreatDoorEcX
import Derived.BigRegion
set_option linter.unusedVariables false
set_option linter.unusedSimpArgs false
/- The walks of package cpu: step joined; fits, where it holds. -/
set_option maxRecDepth 100000
set_option linter.unusedVariables false
namespace Go.Proofs.YtbijhlgdilkopaaGreatDoor
open Go.RowKit Bk
variable {w : World} {D : Nat → Prop} {P : Pl} {M : Mach} {vm vs vc vi vo : Value} {sv : List Value}

theorem c_step (h : MOn w P M vm vs vc vi vo sv) {A : Option Addr} {n : Nat} (cap : Nat) (im : Img) (hE : Env w P A n im.code) (hv : im.check.2 = 0) (hf : Fit im M) (hB : MBd M) :
    Calls Tryz.prog 54 #[.agg #[.slice A n cap, .int .i64 im.mem, .int .i64 im.stacks], .pointer (some ⟨P.b, P.off, none⟩)] w (OnM P (Bk.step im.code M) w) := by
  have p0 := hf.p0
  have p1 := hf.p1
  by_cases hin : nextAt M < 0 ∨ (im.code.length : Int) ≤ nextAt M
  · rw [step_eq, if_pos hin]
    rcases hf.d with hd | hd
    · unfold nextAt at hin
      rw [hd, if_neg (by omega)] at hin
      exact step_outF h cap hE _ _ p0 p1 hd (by omega)
    · unfold nextAt at hin
      rw [hd, if_pos (by omega)] at hin
      exact step_outB h cap hE _ _ p0 p1 hd (by omega)
  obtain ⟨k, hk⟩ := nat_of (show 0 ≤ nextAt M by omega)
  have hkl : k < im.code.length := by omega
  have hff := fault_facts ((check_fault hv).2 k hkl)
  have hval := hff.1
  have h0 := hE.hw.op0 k
  have h35 : (im.code.getD k default).op < 35 := by
    unfold Ins.valid validB at hval
    simp only [Bool.and_eq_true, decide_eq_true_eq] at hval
    exact hval.1.1
  have hcl := hf.cl
  have hcs := hf.cs
  have hpc : (M.dir = 1 ∧ M.pc = (k : Int)) ∨ (M.dir = -1 ∧ M.pc = (k : Int) + 1) := by
    unfold nextAt at hk
    rcases hf.d with e | e
    · rw [e, if_neg (by omega)] at hk; exact .inl ⟨e, hk⟩
    · rw [e, if_pos (by omega)] at hk; exact .inr ⟨e, by omega⟩
  by_cases o34 : (im.code.getD k default).op = 34
  · exact OnM.of (x := (4, M)) (step_halt h cap hE _ _ k hkl hpc hval _ rfl o34) (by rw [step_eq, if_neg hin, hk, Int.toNat_natCast, if_pos o34])
  rw [step_in k hk hkl o34 hval]
  by_cases oc : (im.code.getD k default).op = 30 ∨ (im.code.getD k default).op = 31
  · rw [if_pos oc]
    exact step_call h cap hE _ _ k hkl hpc hval _ rfl oc hcl
  rw [if_neg oc]
  by_cases orr : (im.code.getD k default).op = 32 ∨ (im.code.getD k default).op = 33
  · rw [if_pos orr]
    exact step_ret h cap hE _ _ k hkl hpc hval _ rfl orr hcl hcs
  rw [if_neg orr]
  by_cases oj : 22 ≤ (im.code.getD k default).op ∧ (im.code.getD k default).op ≤ 27
  · rw [if_pos (ctl_iff.2 oj)]
    exact step_jump h cap hE _ _ k hkl hpc hval _ rfl oj
  rw [if_neg (fun g => oj (ctl_iff.1 g))]
  show Calls _ _ _ _ (OnM P (after (exec M (if M.dir < 0 then (im.code.getD k default).inverse else im.code.getD k default)) M) w)
  rcases hpc with ⟨e1, e2⟩ | ⟨e1, e2⟩
  · rw [show (if M.dir < 0 then (im.code.getD k default).inverse else im.code.getD k default) = im.code.getD k default from if_neg (by omega)]
    exact step_goF h cap hE _ _ k hkl e1 e2 hval _ rfl h0 (by omega) hB
  · rw [show (if M.dir < 0 then (im.code.getD k default).inverse else im.code.getD k default) = (im.code.getD k default).inverse from if_pos (by omega)]
    exact step_goB h cap hE _ _ k hkl e1 e2 hval _ rfl h0 (by omega) hB
end Go.Proofs.YtbijhlgdilkopaaGreatDoor

/- cpu.fits and cpu.Fits with both answers: joined. -/
set_option linter.unusedVariables false
namespace Go.Proofs.YtbijhlgdilkopaaGreatDoor
open Go.RowKit Bk
theorem fitsB_eq2 {im : Img} {M : Mach} {n : Nat} (hn : n = im.code.length) (hd : M.dir = 1 ∨ M.dir = -1) (t0 : decide (M.pc < 0) = false) (t1 : decide ((n : Int) < M.pc) = false) (u0 : ((M.m.length : Int) != im.mem) = false) (u1 : ((M.s.length : Int) != im.stacks) = false) (u2 : decide ((M.s.length : Int) < 1) = false) :
    ((M.s.drop 1).all (fun l => decide (l.length ≤ 1000)) && (M.calls.all (fun a => decide (0 ≤ a.1 ∧ a.1 < (n : Int))) && decide (M.calls.length ≤ 100 ∧ M.inp.length ≤ 4096 ∧ M.out.length ≤ 4096 ∧ 0 ≤ M.fp ∧ M.fp ≤ im.mem ∧ 0 ≤ M.sb ∧ M.sb ≤ im.stacks))) = fitsB im M := by
  subst hn
  simp only [decide_eq_false_iff_not, bne_eq_false_iff_eq] at t0 t1 u0 u1 u2
  unfold fitsB
  rw [Bool.eq_iff_iff]
  simp only [Bool.and_eq_true, decide_eq_true_eq]
  constructor
  · rintro ⟨h1, h2, h3⟩
    exact ⟨⟨⟨⟨⟨⟨⟨hd, by omega⟩, u0⟩, u1, by omega⟩, h1⟩, h2⟩, h3.1, h3.2.1, h3.2.2.1⟩, h3.2.2.2⟩
  · rintro ⟨⟨⟨⟨⟨⟨⟨_, _⟩, _⟩, _⟩, h1⟩, h2⟩, h3⟩, h4⟩
    exact ⟨h1, h2, h3.1, h3.2.1, h3.2.2, h4⟩
theorem fitsB_no {im : Img} {M : Mach} {v : Bool} (hv : fitsB im M = v) (h : ¬ ((M.dir = 1 ∨ M.dir = -1) ∧ (0 ≤ M.pc ∧ M.pc ≤ im.code.length) ∧ (M.m.length : Int) = im.mem ∧ (M.s.length : Int) = im.stacks ∧ 1 ≤ M.s.length)) : false = v := by
  rw [← hv]
  symm
  rw [← Bool.not_eq_true]
  intro hf
  unfold fitsB at hf
  simp only [Bool.and_eq_true, decide_eq_true_eq] at hf
  obtain ⟨⟨⟨⟨⟨⟨⟨h1, h2⟩, h3⟩, h4⟩, h5⟩, h6⟩, h7⟩, h8⟩ := hf
  exact h ⟨h1, h2, h3, h4.1, h4.2⟩
/-- cpu.fits. -/
theorem c_fitsG {w : World} {D : Nat → Prop} {b off : Nat} {M : Mach} {vm vs vc vi vo : Value} {sv : List Value} (h : MRd w D b off M vm vs vc vi vo sv) (A : Option Addr) (n cap : Nat) (im : Img) (hn : n = im.code.length) (hn6 : n ≤ 65536) (hms : M.s.length ≤ 1000000) (hcl : M.calls.length ≤ 17592186044400) {v : Bool} (hv : fitsB im M = v) :
    Calls Tryz.prog 53 #[.agg #[.slice A n cap, .int .i64 im.mem, .int .i64 im.stacks], .pointer (some ⟨b, off, none⟩)] w fun e w' => e = .returned (.bool v) ∧ Below w.heap.size w w' := by
  by_cases hd : M.dir = 1 ∨ M.dir = -1
  case neg =>
    obtain rfl := fitsB_no hv (fun h => hd h.1)
    exact fg_dir h A n cap im (by simp; omega) (by simp; omega)
  cases t0 : decide (M.pc < 0) with
  | true =>
    obtain rfl := fitsB_no hv (fun h => by simp at t0; omega)
    rcases hd with hd | hd
    · exact fg_10 h A n cap im (.inl hd) t0
    · exact fg_10 h A n cap im (.inr hd) t0
  | false =>
  cases t1 : decide ((n : Int) < M.pc) with
  | true =>
    obtain rfl := fitsB_no hv (fun h => by simp at t1; omega)
    rcases hd with hd | hd
    · exact fg_11 h A n cap im (.inl hd) t0 t1
    · exact fg_11 h A n cap im (.inr hd) t0 t1
  | false =>
  cases u0 : ((M.m.length : Int) != im.mem) with
  | true =>
    obtain rfl := fitsB_no hv (fun h => by simp at u0; omega)
    rcases hd with hd | hd
    · exact fg_30 h A n cap im (.inl hd) t0 t1 u0
    · exact fg_30 h A n cap im (.inr hd) t0 t1 u0
  | false =>
  cases u1 : ((M.s.length : Int) != im.stacks) with
  | true =>
    obtain rfl := fitsB_no hv (fun h => by simp at u1; omega)
    rcases hd with hd | hd
    · exact fg_31 h A n cap im (.inl hd) t0 t1 u0 u1
    · exact fg_31 h A n cap im (.inr hd) t0 t1 u0 u1
  | false =>
  cases u2 : decide ((M.s.length : Int) < 1) with
  | true =>
    obtain rfl := fitsB_no hv (fun h => by simp at u2; omega)
    rcases hd with hd | hd
    · exact fg_32 h A n cap im (.inl hd) t0 t1 u0 u1 u2
    · exact fg_32 h A n cap im (.inr hd) t0 t1 u0 u1 u2
  | false =>
  have hv2 := (fitsB_eq2 hn hd t0 t1 u0 u1 u2).trans hv
  obtain ⟨m, hm⟩ : ∃ m, M.s.length = m + 1 := ⟨M.s.length - 1, by simp at u2; omega⟩
  obtain ⟨Av, cv, hvs, hcv, _⟩ := h.s
  have key : ∀ A n cap, vs = .slice A n cap → cap = cv := by
    intro A n cap e; rw [hvs] at e; injection e with _ _ e; exact e.symm
  rcases Nat.eq_or_lt_of_le (show 1 ≤ cv by omega) with e | e
  · rcases hd with hd | hd
    · exact fg_rest1 h A n cap im (.inl hd) t0 t1 u0 u1 u2 m hm (by omega) hcl hn6 (fun A n cap e' => by rw [key _ _ _ e', e]) hv2
    · exact fg_rest1 h A n cap im (.inr hd) t0 t1 u0 u1 u2 m hm (by omega) hcl hn6 (fun A n cap e' => by rw [key _ _ _ e', e]) hv2
  · obtain ⟨c, rfl⟩ : ∃ c, cv = c + 1 := ⟨cv - 1, by omega⟩
    rcases hd with hd | hd
    · exact fg_restN h A n cap im (.inl hd) t0 t1 u0 u1 u2 m hm (by omega) hcl hn6 c (by omega) key hv2
    · exact fg_restN h A n cap im (.inr hd) t0 t1 u0 u1 u2 m hm (by omega) hcl hn6 c (by omega) key hv2
end Go.Proofs.YtbijhlgdilkopaaGreatDoor

/- cpu.Step on machines that fit (seats without cpu.Back and cpu.Fits). -/
set_option maxRecDepth 100000
set_option maxHeartbeats 8000000
set_option maxRecDepth 100000
set_option linter.unusedVariables false
namespace Go.Proofs.YtbijhlgdilkopaaGreatDoor
open Go.RowKit Bk
variable {w : World} {D : Nat → Prop} {P : Pl} {M : Mach} {vm vs vc vi vo : Value} {sv : List Value}
/-- fits holds where the machine fits. -/
theorem c_fitsT (h : MOn w P M vm vs vc vi vo sv) (A : Option Addr) (n cap : Nat) (im : Img) (hn : n = im.code.length) (hn6 : n ≤ 65536) (hf : Fit im M) (hB : MBd M) :
    Calls Tryz.prog 53 #[.agg #[.slice A n cap, .int .i64 im.mem, .int .i64 im.stacks], .pointer (some ⟨P.b, P.off, none⟩)] w fun e w' => e = .returned (.bool true) ∧ Below w.heap.size w w' :=
  c_fitsG h.rd A n cap im hn hn6 (by have := hB.sl; omega) (by have := hB.cl; omega) (fitsB_of hf)

theorem c_Step (h : MOn w P M vm vs vc vi vo sv) {A : Option Addr} {n : Nat} (cap : Nat) (im : Img) (hE : Env w P A n im.code) (hv : im.check.2 = 0) (hf : Fit im M) (hB : MBd M) :
    Calls Tryz.prog 30 #[.agg #[.slice A n cap, .int .i64 im.mem, .int .i64 im.stacks], .pointer (some ⟨P.b, P.off, none⟩)] w (OnM P (Bk.step im.code M) w) := by
  have HM := Lib.hid h; have HE := Lib.hid hE; have HV := Lib.hid hv; have HF := Lib.hid hf; have HB := Lib.hid hB
  obtain ⟨b, tt, pre, post, off, gm, gs, fx⟩ := P
  dsimp only at *
  clear h hE hv hf hB
  go_enter Tryz.func30, Tryz.ntmps30
  go_wp2_with fail
  refine (c_fitsT (HM.out.next (by go_grown)) A n cap im HE.out.hn (by have := HE.out.hl; have := HE.out.hn; omega) HF.out HB.out).mono ?_
  rintro e w2 ⟨rfl, hb2⟩
  have hB_w2 : Below w.heap.size w w2 := Below.next (by go_grown) hb2
  have K_1 : Blk w2 (w.heap.size) 82 #[.slice A n cap, .int .i64 im.mem, .int .i64 im.stacks] := Blk.next (by repeat' (first | with_reducible exact H_1.out | with_reducible exact K0_1 | (refine Blk.new' ?_ _ _; simp; done) | with_reducible refine Blk.alloc ?_ _ | with_reducible refine Blk.drewN ?_ _ | with_reducible refine Blk.drew ?_)) hb2; (try clear H_1); (try clear T_1); (try clear z_1); (try clear F_1); obtain ⟨z_1, T_1, F_1⟩ := K_1.open_; have H_1 := Lib.hid K_1; clear K_1
  clear hb2
  go_wp2_with fail
  refine (c_step (HM.out.next hB_w2) cap im (HE.out.next hB_w2) HV.out HF.out HB.out).mono ?_
  rintro e w3 ⟨rfl, hm3, hf3⟩
  go_wp2_with fail
  go_ret
  exact ⟨rfl, hm3, (Fr.of hB_w2).trans hf3⟩

end Go.Proofs.YtbijhlgdilkopaaGreatDoor

/- The law's run: straight code is executed. -/
set_option linter.unusedVariables false
set_option linter.unusedSimpArgs false
set_option maxRecDepth 100000
set_option maxHeartbeats 4000000
namespace Go.Proofs.YtbijhlgdilkopaaGreatDoor
open Go.RowKit Bk
theorem e_run {w : World} {P : Pl} {M : Mach} (hM : MAt w P M) {A : Option Addr} {n : Nat} (cap : Nat) {l : Prg} (hE : Env w P A n l) (hl : Line l) (hr : Runs M n) :
    Calls Tryz.prog 12 #[.slice A n cap, .pointer (some ⟨P.b, P.off, none⟩)] w fun e w' => e = .returned (.int .i64 (seqX l M).1) ∧ ((seqX l M).1 = 0 → MAt w' P ((seqX l M).2.at_ 0 1)) ∧ Fr P.O w w' := by
  have hn : l.length = n := hE.hn.symm
  have HN := Lib.hid hn
  clear hn
  have hnl := hr.n
  obtain ⟨vm, vs, vc, vi, vo, sv, hm⟩ := hM
  have HE := Lib.hid hE; have HL := Lib.hid hl; have HR := Lib.hid hr
  obtain ⟨Am, cm, evm, _, _⟩ := hm.m
  obtain ⟨As, cs, evs, _, _⟩ := hm.s
  have hsv : sv.length = M.s.length := hm.l.1.1
  rw [intCells_length] at evm
  rw [hsv] at evs
  have c18 := hm.c18; have c19 := hm.c19; have f0 := hm.frozen P.off; have f1 := hm.frozen (P.off + 1); have c0 := hm.c0; have c1 := hm.c1
  have hlt := hm.lt
  rw [evm] at c18; rw [evs] at c19
  have HM := Lib.hid hm
  obtain ⟨M0, hM0⟩ : ∃ M0, M0 = M := ⟨_, rfl⟩
  obtain ⟨ml, hml⟩ : ∃ ml, M.m.length = ml := ⟨_, rfl⟩
  obtain ⟨sl, hsl⟩ : ∃ sl, M.s.length = sl := ⟨_, rfl⟩
  rw [hml] at c18; rw [hsl] at c19
  have HML := Lib.hid hml; have HSL := Lib.hid hsl; have HM0 := Lib.hid hM0
  obtain ⟨b, tt, pre, post, off, gm, gs, fx⟩ := P
  dsimp only at *
  clear hE hl hr hm evm evs hml hsl hM0 hsv
  go_enter Tryz.func12, Tryz.ntmps12
  go_upto_region 1 with fail
  go_region
  generalize hw1 : World.drew _ = w1
  have hb1 : Below w.heap.size w w1 := by rw [← hw1]; exact (by go_grown)
  have KI : Blk w1 w.heap.size 82 #[.slice A n cap, .int .i64 ml, .int .i64 sl] := by rw [← hw1]; exact (by repeat' (first | assumption | exact Blk.new' (by simp) _ _ | apply Blk.alloc | apply Blk.drew))
  have h1 := HM.out.next hb1
  have f0 := h1.frozen off; have f1 := h1.frozen (off + 1); have c0 := h1.c0; have c1 := h1.c1
  have hlt1 := h1.lt
  dsimp only at f0 f1 c0 c1 hlt1
  have HKI := Lib.hid KI
  have hzw : w.heap.size < w1.heap.size := KI.lt
  have hbi : b ≠ w.heap.size := by omega
  have H1 := Lib.hid h1; have HB1 := Lib.hid hb1
  have hgm : gm < w.heap.size := HM.out.gm
  have hgs : gs < w.heap.size := HM.out.gs
  clear hw1 KI h1 hb1 HM c18 c19
  go_upto_region 3 with fail
  refine wp_nameE ?_
  intro w3 hw3
  have hm3 : MAt w3 ⟨b, tt, pre, post, off, gm, gs, fx⟩ (M.at_ 0 1) := by rw [hw3]; exact ((H1.out.setPc 0).setDir 1).mat
  have hf3 : Fr (Pl.O ⟨b, tt, pre, post, off, gm, gs, fx⟩) w w3 := by rw [hw3]; exact ((Fr.of HB1.out).set (.inl rfl) _).set (.inl rfl) _
  have KI : Blk w3 w.heap.size 82 #[.slice A n cap, .int .i64 ml, .int .i64 sl] := by rw [hw3]; exact (HKI.out.far (Ne.symm hbi) _).far (Ne.symm hbi) _
  have HM3 := Lib.hid hm3; have HF3 := Lib.hid hf3; have HKI3 := Lib.hid KI
  clear hw3 hm3 hf3 KI f0 f1 c0 c1 H1 HKI
  have HNO : Hid (¬ Pl.O ⟨b, tt, pre, post, off, gm, gs, fx⟩ w.heap.size) := Lib.hid (by rintro (e | e | e) <;> (dsimp only at e; omega))
  clear hgm hgs hbi hzw hlt hlt1
  go_upto_region 4 with fail
  go_loopw [27] (fun v27 wr => ∃ (j : Nat) (N : Mach), j ≤ n ∧ v27 = .int .i64 j ∧ seqX (l.take j) M = (0, N) ∧ MAt wr ⟨b, tt, pre, post, off, gm, gs, fx⟩ (N.at_ j 1) ∧ Fr (Pl.O ⟨b, tt, pre, post, off, gm, gs, fx⟩) w wr ∧ Blk wr w.heap.size 82 #[.slice A n cap, .int .i64 ml, .int .i64 sl]) (fun v _ => n - (intOf v).toNat)
  case atStart => exact ⟨0, M, Nat.zero_le _, rfl, rfl, HM3.out, HF3.out, HKI3.out⟩
  case round =>
    obtain ⟨j, N, hj, rfl, hsx, hmt, hfr, hki⟩ := hrel
    have HSX := Lib.hid hsx; have HFR := Lib.hid hfr; have HKI := Lib.hid hki
    clear HM3 HF3 HKI3
    by_cases hlt : j < n
    · have hj0 : (0 : Int) ≤ (j : Int) := by omega
      have hj1 : (j : Int) < (n : Int) := by omega
      have hst := line_step HL.out (by rw [HN.out]; exact hlt) N
      have hsu := seqX_succ (by rw [HN.out]; exact hlt) hsx
      have htk := seqX_take (l := l) (M := M) (j + 1)
      obtain ⟨hfit, hbd⟩ := Runs.fit (l := l) (by rw [HN.out]; exact HR.out) HL.out (j := j) (by rw [HN.out]; omega) hsx
      rw [HML.out, HSL.out] at hfit
      have hck : (⟨l, (ml : Int), (sl : Int)⟩ : Img).check.2 = 0 := HL.out.check (by rw [HN.out]; exact hnl) ⟨by omega, by have := HR.out.ml; have := HML.out; omega⟩ ⟨by have := HR.out.ok.s1; have := HSL.out; omega, by have := HR.out.sl; have := HSL.out; omega⟩
      have HFIT := Lib.hid hfit; have HBD := Lib.hid hbd; have HCK := Lib.hid hck
      obtain ⟨vm2, vs2, vc2, vi2, vo2, sv2, hm2⟩ := hmt
      have HM2 := Lib.hid hm2
      obtain ⟨z_1, T_1, F_1⟩ := hki.open_
      by_cases hx : (exec N (l.getD j default)).1 = 0
      · rw [if_pos hx] at hst hsu
        have HST := Lib.hid hst; have HSU := Lib.hid hsu
        obtain ⟨N', hN'⟩ : ∃ N', (exec N (l.getD j default)).2 = N' := ⟨_, rfl⟩
        rw [hN'] at HST HSU
        clear hst hsu htk hfit hbd hck hm2 hki hx hN' hsx hfr
        go_wp2_with fail
        refine (OnM.of (c_Step HM2.out cap ⟨l, ml, sl⟩ (HE.out.fr HFR.out) HCK.out HFIT.out HBD.out) HST.out.symm).mono ?_
        rintro e w5 ⟨rfl, hm5, hf5⟩
        have HM5 := Lib.hid hm5; have HF5 := Lib.hid (HFR.out.trans hf5); have HKI5 := Lib.hid (hf5.blk HKI.out HNO.out)
        clear T_1 z_1 F_1 hm5 hf5
        go_wp2_with fail
        exact ⟨⟨j + 1, N', by omega, by go_num, HSU.out, HM5.out, HF5.out, HKI5.out⟩, by simp [intOf]; omega⟩
      · rw [if_neg hx] at hst hsu
        have hres : seqX l M = exec N (l.getD j default) := by rw [← hsu]; exact htk (by rw [hsu]; exact hx)
        obtain ⟨er, her⟩ : ∃ er, (exec N (l.getD j default)).1 = er := ⟨_, rfl⟩
        rw [her] at hst hx
        have hres1 : (seqX l M).1 = er := by rw [hres, her]
        have HST := Lib.hid hst; have HRES := Lib.hid hres1
        clear hst hsu htk hfit hbd hck hm2 hki hsx hfr hres her hres1
        go_wp2_with fail
        refine (OnM.of (c_Step HM2.out cap ⟨l, ml, sl⟩ (HE.out.fr HFR.out) HCK.out HFIT.out HBD.out) HST.out.symm).mono ?_
        rintro e w5 ⟨rfl, hm5, hf5⟩
        have HF5 := Lib.hid (HFR.out.trans hf5)
        clear T_1 z_1 F_1 hm5 hf5
        go_wp2_with fail
        go_ret
        rw [HRES.out]
        exact ⟨rfl, fun h => absurd h hx, HF5.out⟩
    · obtain rfl : j = n := by omega
      have et : l.take j = l := by rw [← HN.out]; exact List.take_length
      rw [et] at hsx
      obtain ⟨vm2, vs2, vc2, vi2, vo2, sv2, hm2⟩ := hmt
      have c0 := hm2.c0; have f0 := hm2.frozen off
      have hlt2 := hm2.lt
      dsimp only [Mach.at_] at c0 f0 hlt2
      have HM2 := Lib.hid hm2; have HSX2 := Lib.hid hsx
      clear hm2 hki hsx hfr
      go_wp2_with fail
      go_ret
      rw [HSX2.out]
      exact ⟨rfl, fun _ => (HM2.out.setPc 0).mat, HFR.out.set (.inl rfl) _⟩
end Go.Proofs.YtbijhlgdilkopaaGreatDoor
