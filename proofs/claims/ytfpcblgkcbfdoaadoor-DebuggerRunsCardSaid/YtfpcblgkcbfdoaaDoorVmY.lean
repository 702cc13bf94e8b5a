/- Several texts in one: VmB VmC VmE. -/
import Derived.Test.YtfpcblgkcbfdoaaDoorVmX
import Derived.Test.YtfpcblgkcbfdoaaDoorVmW
set_option linter.unusedVariables false
set_option linter.unusedSimpArgs false
/- The walks of the VM's Step, Back. -/
set_option maxRecDepth 100000
set_option linter.unusedVariables false
set_option linter.unusedSimpArgs false
namespace Go.Proofs.YtfpcblgkcbfdoaaDoor
open Go.RowKit Bk
theorem c_VStepNil (w : World) : Calls Tryd.prog 44 #[.pointer none] w fun e w' => e = .returned (.int .i64 1) ∧ Below w.heap.size w w' := by
  go_enter Tryd.func44, Tryd.ntmps44
  go_wp2_with fail
  go_ret
  exact ⟨rfl, by repeat' (first | (with_reducible assumption) | (with_reducible exact Below.refl _ _) | (with_reducible refine Below.alloc ?_ ?_ _) | (with_reducible refine Bk.drewN_ ?_ _) | (with_reducible refine Below.drew ?_) | (with_reducible refine Below.setCell ?_ ?_ _) | go_size)⟩
set_option maxRecDepth 100000 in
theorem c_VStep0 {w : World} {P : Pl} {A : Option Addr} {n cap : Nat} {im : Img} {M : Mach} {j : Nat} (hX : VFx w P A n cap im) (hA : VAt w P im.code M j 0) :
    Calls Tryd.prog 44 #[.pointer (some ⟨P.b, 0, none⟩)] w fun e w' => e = .returned (.int .i64 18) ∧ Below w.heap.size w w' := by
  have hE := True.intro
  have HX := Lib.hid hX; have HE := Lib.hid hE; obtain ⟨⟨vm, vs, vc, vi, vo, sv, h⟩, hr⟩ := hA; obtain ⟨b, tt, pre, post, off, gm, gs, fx⟩ := P; obtain ⟨hpre, hoff, hv⟩ := hX; dsimp only at hpre hoff; subst hpre hoff; have HM := Lib.hid h; have HR := Lib.hid hr
  have e28 : w.cell? ⟨b, 28, none⟩ = some (.int .i64 0) := h.cpost 0
  clear h hr hv hE HE
  go_enter Tryd.func44, Tryd.ntmps44
  go_wp2_with fail
  go_ret
  exact ⟨rfl, by repeat' (first | (with_reducible assumption) | (with_reducible exact Below.refl _ _) | (with_reducible refine Below.alloc ?_ ?_ _) | (with_reducible refine Bk.drewN_ ?_ _) | (with_reducible refine Below.drew ?_) | (with_reducible refine Below.setCell ?_ ?_ _) | go_size)⟩
set_option maxRecDepth 100000 in
set_option maxHeartbeats 2000000 in
theorem c_VStepOk {w : World} {P : Pl} {A : Option Addr} {n cap : Nat} {im : Img} {M : Mach} {J j f : Nat} (hX : VFx w P A n cap im) (hE : VEnv im M J) (hJ : j ≤ J) (hj : j ≤ 4000000000000) (hf : f ≤ 4000000000000) (hA : VAt w P im.code M j (f + 1)) (h0 : te im.code M j = 0) :
    Calls Tryd.prog 44 #[.pointer (some ⟨P.b, 0, none⟩)] w fun e w' => e = .returned (.int .i64 0) ∧ VAt w' P im.code M (j + 1) f ∧ Fr P.O w w' := by
  have HX := Lib.hid hX; have HE := Lib.hid hE; obtain ⟨⟨vm, vs, vc, vi, vo, sv, h⟩, hr⟩ := hA; obtain ⟨b, tt, pre, post, off, gm, gs, fx⟩ := P; obtain ⟨hpre, hoff, hv⟩ := hX; dsimp only at hpre hoff; subst hpre hoff; have HM := Lib.hid h; have HR := Lib.hid hr
  have e0 : w.cell? ⟨b, 0, none⟩ = some (.slice A n cap) := h.cpre 0 (by simp [VPl]); have e1 : w.cell? ⟨b, 1, none⟩ = some (.int .i64 im.mem) := h.cpre 1 (by simp [VPl]); have e2 : w.cell? ⟨b, 2, none⟩ = some (.int .i64 im.stacks) := h.cpre 2 (by simp [VPl])
  obtain ⟨F, hF⟩ : ∃ F : Int, F = ((f + 1 : Nat) : Int) := ⟨_, rfl⟩
  obtain ⟨T, hT⟩ : ∃ T : Int, T = (j : Int) := ⟨_, rfl⟩
  have e28 : w.cell? ⟨b, 28, none⟩ = some (.int .i64 F) := hF ▸ h.cpost 0
  have f1 : ¬ F ≤ 0 := by omega
  have f2 : F ≤ 4000000000001 := by omega
  have t1 : 0 ≤ T := by omega
  have t2 : T ≤ 4000000000000 := by omega
  have HF := Lib.hid hF; have HT := Lib.hid hT; have H0 := Lib.hid h0
  clear h hr hv hE h0 hF hT
  go_enter Tryd.func44, Tryd.ntmps44
  go_wp2_with fail
  go_still_tail 7, (by kernel_rfl)
  change wpList _ _ _ _ _ w.drew
  go_wp2_with fail
  have hs := c_Step (HM.out.heap (w' := w.drew) rfl) cap im ((HX.out.env.pl _ _).next (by repeat' (first | (with_reducible assumption) | (with_reducible exact Below.refl _ _) | (with_reducible refine Below.alloc ?_ ?_ _) | (with_reducible refine Bk.drewN_ ?_ _) | (with_reducible refine Below.drew ?_) | (with_reducible refine Below.setCell ?_ ?_ _) | go_size))) HE.out.ck (HE.out.fit j) (HE.out.bd j hJ)
  refine (OnM.of hs (te_ok H0.out).symm).mono ?_
  rintro e w3 ⟨rfl, hm3, hf3⟩
  obtain ⟨vm', vs', vc', vi', vo', sv', h3⟩ := hm3
  have z3 : b < w3.heap.size := h3.lt
  have g28 : w3.cell? ⟨b, 28, none⟩ = some (.int .i64 F) := HF.out ▸ h3.cpost 0
  have g29 : w3.cell? ⟨b, 29, none⟩ = some (.int .i64 T) := HT.out ▸ h3.cpost 1
  have fr : ∀ o, w3.frozen? ⟨b, o, none⟩ = false := fun o => h3.frozen o
  have H3 := Lib.hid h3
  have HF3 : Hid (Fr (Pl.O ⟨b, tt, [.slice A n cap, .int .i64 im.mem, .int .i64 im.stacks], post, 3, gm, gs, fx⟩) w w3) := Lib.hid ((Fr.of (by repeat' (first | (with_reducible assumption) | (with_reducible exact Below.refl _ _) | (with_reducible refine Below.alloc ?_ ?_ _) | (with_reducible refine Bk.drewN_ ?_ _) | (with_reducible refine Below.drew ?_) | (with_reducible refine Below.setCell ?_ ?_ _) | go_size))).trans hf3)
  clear h3 hf3 hs e0 e1 e2 e28
  go_wp2_with fail
  go_ret
  refine ⟨rfl, ⟨⟨vm', vs', vc', vi', vo', sv', ?_⟩, HR.out.succ H0.out⟩, ?_⟩
  · have h4 := (H3.out.setPost 0 (.int .i64 (F - 1)) (o := 28) rfl).setPost 1 (.int .i64 (T + 1)) (o := 29) rfl
    have q1 : F - 1 = (f : Int) := by have := HF.out; omega
    have q2 : T + 1 = ((j + 1 : Nat) : Int) := by have := HT.out; omega
    rw [q1, q2] at h4
    rw [q1, q2]
    exact h4
  · have HF3 := HF3.out
    repeat' (first | (with_reducible exact Fr.refl _ _) | with_reducible assumption | (with_reducible refine Fr.drew ?_) | (with_reducible refine Fr.drewN ?_ _) | (with_reducible refine Fr.alloc ?_ _) | (with_reducible refine Fr.set ?_ ?_ _) | exact Or.inl rfl | exact Or.inr (Or.inl rfl) | exact Or.inr (Or.inr rfl) | (refine Fr.of ?_; assumption))
set_option maxRecDepth 100000 in
set_option maxHeartbeats 2000000 in
theorem c_VStepErr {w : World} {P : Pl} {A : Option Addr} {n cap : Nat} {im : Img} {M : Mach} {J j f : Nat} (hX : VFx w P A n cap im) (hE : VEnv im M J) (hJ : j ≤ J) (hj : j ≤ 4000000000000) (hf : f ≤ 4000000000000) (hA : VAt w P im.code M j (f + 1)) (h0 : te im.code M j ≠ 0) :
    Calls Tryd.prog 44 #[.pointer (some ⟨P.b, 0, none⟩)] w fun e w' => e = .returned (.int .i64 (te im.code M j)) ∧ VAt w' P im.code M j (f + 1) ∧ Fr P.O w w' := by
  have HX := Lib.hid hX; have HE := Lib.hid hE; obtain ⟨⟨vm, vs, vc, vi, vo, sv, h⟩, hr⟩ := hA; obtain ⟨b, tt, pre, post, off, gm, gs, fx⟩ := P; obtain ⟨hpre, hoff, hv⟩ := hX; dsimp only at hpre hoff; subst hpre hoff; have HM := Lib.hid h; have HR := Lib.hid hr
  have e0 : w.cell? ⟨b, 0, none⟩ = some (.slice A n cap) := h.cpre 0 (by simp [VPl]); have e1 : w.cell? ⟨b, 1, none⟩ = some (.int .i64 im.mem) := h.cpre 1 (by simp [VPl]); have e2 : w.cell? ⟨b, 2, none⟩ = some (.int .i64 im.stacks) := h.cpre 2 (by simp [VPl])
  obtain ⟨F, hF⟩ : ∃ F : Int, F = ((f + 1 : Nat) : Int) := ⟨_, rfl⟩
  have e28 : w.cell? ⟨b, 28, none⟩ = some (.int .i64 F) := hF ▸ h.cpost 0
  have f1 : ¬ F ≤ 0 := by omega
  obtain ⟨ee, hee⟩ : ∃ ee, te im.code M j = ee := ⟨_, rfl⟩
  have hst := te_err h0
  rw [hee] at h0 hst ⊢
  have e3 : (ee == 0) = false := by simpa using h0
  have e4 : decide (ee = 0) = false := by simpa using h0
  have HST := Lib.hid hst
  clear h hr hv hE hF hee hst
  go_enter Tryd.func44, Tryd.ntmps44
  go_wp2_with fail
  go_still_tail 7, (by kernel_rfl)
  change wpList _ _ _ _ _ w.drew
  go_wp2_with fail
  have hs := c_Step (HM.out.heap (w' := w.drew) rfl) cap im ((HX.out.env.pl _ _).next (by repeat' (first | (with_reducible assumption) | (with_reducible exact Below.refl _ _) | (with_reducible refine Below.alloc ?_ ?_ _) | (with_reducible refine Bk.drewN_ ?_ _) | (with_reducible refine Below.drew ?_) | (with_reducible refine Below.setCell ?_ ?_ _) | go_size))) HE.out.ck (HE.out.fit j) (HE.out.bd j hJ)
  refine (OnM.of hs HST.out.symm).mono ?_
  rintro e w3 ⟨rfl, hm3, hf3⟩
  have HF3 : Hid (Fr (Pl.O ⟨b, tt, [.slice A n cap, .int .i64 im.mem, .int .i64 im.stacks], post, 3, gm, gs, fx⟩) w w3) := Lib.hid ((Fr.of (by repeat' (first | (with_reducible assumption) | (with_reducible exact Below.refl _ _) | (with_reducible refine Below.alloc ?_ ?_ _) | (with_reducible refine Bk.drewN_ ?_ _) | (with_reducible refine Below.drew ?_) | (with_reducible refine Below.setCell ?_ ?_ _) | go_size))).trans hf3)
  have H3 := Lib.hid hm3
  clear hm3 hf3 hs e0 e1 e2 e28
  go_wp2_with fail
  go_ret
  exact ⟨rfl, ⟨H3.out, HR.out⟩, HF3.out⟩
end Go.Proofs.YtfpcblgkcbfdoaaDoor

/- The walks of the VM's Fuel, Ticks, Halted, Machine, Add. -/
set_option maxRecDepth 100000
set_option linter.unusedVariables false
set_option linter.unusedSimpArgs false
namespace Go.Proofs.YtfpcblgkcbfdoaaDoor
open Go.RowKit Bk
theorem c_VHaltedNil (w : World) : Calls Tryd.prog 45 #[.pointer none] w fun e w' => e = .returned (.bool false) ∧ Below w.heap.size w w' := by
  go_enter Tryd.func45, Tryd.ntmps45
  go_wp2_with fail
  go_ret
  exact ⟨rfl, by repeat' (first | (with_reducible assumption) | (with_reducible exact Below.refl _ _) | (with_reducible refine Below.alloc ?_ ?_ _) | (with_reducible refine Bk.drewN_ ?_ _) | (with_reducible refine Below.drew ?_) | (with_reducible refine Below.setCell ?_ ?_ _) | go_size)⟩
set_option maxRecDepth 100000 in
set_option maxHeartbeats 2000000 in
theorem c_VHalted {w : World} {P : Pl} {A : Option Addr} {n cap : Nat} {im : Img} {M : Mach} {J j f : Nat} (hX : VFx w P A n cap im) (hE : VEnv im M J) (hJ : j ≤ J) (hA : VAt w P im.code M j f) :
    Calls Tryd.prog 45 #[.pointer (some ⟨P.b, 0, none⟩)] w fun e w' => e = .returned (.bool (halt im.code (tr im.code M j))) ∧ Below w.heap.size w w' := by
  have HX := Lib.hid hX; have HE := Lib.hid hE; obtain ⟨⟨vm, vs, vc, vi, vo, sv, h⟩, hr⟩ := hA; obtain ⟨b, tt, pre, post, off, gm, gs, fx⟩ := P; obtain ⟨hpre, hoff, hv⟩ := hX; dsimp only at hpre hoff; subst hpre hoff; have HM := Lib.hid h; have HR := Lib.hid hr
  have hfit := hE.fit j
  have hbd := hE.bd j hJ
  have hnn := hv.hn
  have hn6 : n ≤ 65536 := by rw [hnn]; exact hv.hl
  have e0 : w.cell? ⟨b, 0, none⟩ = some (.slice A n cap) := h.cpre 0 (by simp [VPl])
  have e3 : w.cell? ⟨b, 3, none⟩ = some (.int .i64 (tr im.code M j).pc) := h.c0
  have e4 : w.cell? ⟨b, 4, none⟩ = some (.int .i64 (tr im.code M j).dir) := h.c1
  obtain ⟨Ac, cc, hvc, _⟩ := h.l.2.1
  have e23 : w.cell? ⟨b, 23, none⟩ = some (.slice Ac (tr im.code M j).calls.length cc) := by have := h.c20; rw [hvc] at this; exact this
  obtain ⟨r, hr'⟩ : ∃ r, halt im.code (tr im.code M j) = r := ⟨_, rfl⟩
  rw [hr']
  unfold halt at hr'
  obtain ⟨N, hN⟩ : ∃ N, tr im.code M j = N := ⟨_, rfl⟩
  rw [hN] at e3 e4 e23 hr' hfit hbd
  have p0 := hfit.p0; have p1 := hfit.p1
  obtain ⟨k, hk⟩ : ∃ k : Nat, N.pc = (k : Int) := ⟨N.pc.toNat, by omega⟩
  rw [hk] at e3 hr' p0 p1
  rw [← hnn] at hr' p1
  have hcl := hbd.cl
  have HCD := Lib.hid hfit.d
  obtain ⟨dd, hdd⟩ : ∃ dd, N.dir = dd := ⟨_, rfl⟩
  obtain ⟨cl, hcc⟩ : ∃ cl, N.calls.length = cl := ⟨_, rfl⟩
  rw [hdd] at e4 hr'; rw [hcc] at e23 hr' hcl
  have HHR := Lib.hid hr'; have HV := Lib.hid hv; have HN := Lib.hid hnn
  have HHN := Lib.hid hN
  clear h hr hE HE HM HR HX hfit hbd hr' hvc hv hN hdd hcc hk hnn HCD
  by_cases h1 : dd = 1
  · subst h1
    by_cases h2 : cl = 0
    · subst h2
      by_cases h3 : k = n
      · subst h3
        obtain rfl : r = true := by rw [← HHR.out]; simp
        clear HV
        go_enter Tryd.func45, Tryd.ntmps45
        go_wp2_with fail
        go_ret
        exact ⟨rfl, by repeat' (first | (with_reducible assumption) | (with_reducible exact Below.refl _ _) | (with_reducible refine Below.alloc ?_ ?_ _) | (with_reducible refine Bk.drewN_ ?_ _) | (with_reducible refine Below.drew ?_) | (with_reducible refine Below.setCell ?_ ?_ _) | go_size)⟩
      · have hlt : k < n := by omega
        have hkc : k < im.code.length := by rw [← HN.out]; exact hlt
        obtain ⟨bc, oc, rfl⟩ := HV.out.form hkc
        obtain ⟨x, hx⟩ : ∃ x, im.code.getD k default = x := ⟨_, rfl⟩
        have hxx := HV.out.at_ hkc hx
        have x0 := hxx.c0
        obtain ⟨op, hop⟩ : ∃ op, x.op = op := ⟨_, rfl⟩
        rw [hop] at x0
        have i1 : (0 : Int) ≤ (k : Int) := by omega
        have i2 : (k : Int) < (n : Int) := by omega
        have i3 : ((k : Int) == (n : Int)) = false := by simp; omega
        have hrr : r = decide (op = 34) := by rw [← HHR.out, Int.toNat_natCast, hx, hop, decide_eq_false (show ¬ ((k : Int) = (n : Int)) by omega)]; simp
        have HRR := Lib.hid hrr
        clear hrr hxx hx hop HV
        go_enter Tryd.func45, Tryd.ntmps45
        go_wp2_with fail
        go_ret
        exact ⟨ret_bool (by rw [HRR.out]; rfl), by repeat' (first | (with_reducible assumption) | (with_reducible exact Below.refl _ _) | (with_reducible refine Below.alloc ?_ ?_ _) | (with_reducible refine Bk.drewN_ ?_ _) | (with_reducible refine Below.drew ?_) | (with_reducible refine Below.setCell ?_ ?_ _) | go_size)⟩
    · obtain rfl : r = false := by rw [← HHR.out]; simp [h2]
      have h3 : (0 : Int) < (cl : Int) := by omega
      clear HV
      go_enter Tryd.func45, Tryd.ntmps45
      go_wp2_with fail
      go_ret
      exact ⟨rfl, by repeat' (first | (with_reducible assumption) | (with_reducible exact Below.refl _ _) | (with_reducible refine Below.alloc ?_ ?_ _) | (with_reducible refine Bk.drewN_ ?_ _) | (with_reducible refine Below.drew ?_) | (with_reducible refine Below.setCell ?_ ?_ _) | go_size)⟩
  · obtain rfl : r = false := by rw [← HHR.out]; simp [h1]
    have h3 : (dd != 1) = true := by simpa using h1
    clear HV
    go_enter Tryd.func45, Tryd.ntmps45
    go_wp2_with fail
    go_ret
    exact ⟨rfl, by repeat' (first | (with_reducible assumption) | (with_reducible exact Below.refl _ _) | (with_reducible refine Below.alloc ?_ ?_ _) | (with_reducible refine Bk.drewN_ ?_ _) | (with_reducible refine Below.drew ?_) | (with_reducible refine Below.setCell ?_ ?_ _) | go_size)⟩
set_option maxRecDepth 100000 in
set_option maxHeartbeats 2000000 in
theorem c_VMachine {w : World} {P : Pl} {A : Option Addr} {n cap : Nat} {im : Img} {M : Mach} {J j f : Nat} (hX : VFx w P A n cap im) (hE : VEnv im M J) (hJ : j ≤ J) (hA : VAt w P im.code M j f) :
    Calls Tryd.prog 30 #[.pointer (some ⟨P.b, 0, none⟩)] w fun e w' => ∃ vm vs vc vi vo sv, e = .returned (.agg (mcells (tr im.code M j) vm vs vc vi vo).toArray) ∧ MOwn w' w.heap.size (tr im.code M j) vm vs vc vi vo sv ∧ Below w.heap.size w w' := by
  have HX := Lib.hid hX; have HE := Lib.hid hE; obtain ⟨⟨vm, vs, vc, vi, vo, sv, h⟩, hr⟩ := hA; obtain ⟨b, tt, pre, post, off, gm, gs, fx⟩ := P; obtain ⟨hpre, hoff, hv⟩ := hX; dsimp only at hpre hoff; subst hpre hoff; have HM := Lib.hid h; have HR := Lib.hid hr
  have hlt : b < w.heap.size := h.lt
  clear h hr hv hE
  go_enter Tryd.func30, Tryd.ntmps30
  go_wp2_with fail
  refine calls_nameY ?_
  intro w1 hw1
  have hB_w1 : Below w.heap.size w w1 := by rw [hw1]; exact (by repeat' (first | (with_reducible assumption) | (with_reducible exact Below.refl _ _) | (with_reducible refine Below.alloc ?_ ?_ _) | (with_reducible refine Bk.drewN_ ?_ _) | (with_reducible refine Below.drew ?_) | (with_reducible refine Below.setCell ?_ ?_ _) | go_size))
  have K1 : Blk w1 w.heap.size 30 #[.int .i64 0, .int .i64 0, .int .i64 0, .int .i64 0, .int .i64 0, .int .i64 0, .int .i64 0, .int .i64 0, .int .i64 0, .int .i64 0, .int .i64 0, .int .i64 0, .int .i64 0, .int .i64 0, .int .i64 0, .int .i64 0, .int .i64 0, .int .i64 0, .slice none 0 0, .slice none 0 0, .slice none 0 0, .int .i64 0, .int .i64 0, .slice none 0 0, .slice none 0 0] := by rw [hw1]; exact (by repeat' (first | with_reducible assumption | (refine Blk.new' ?_ _ _; simp; done) | refine Blk.alloc ?_ _ | refine Blk.drewN ?_ _ | refine Blk.drew ?_))
  have z1 : w1.heap.size = w.heap.size + 1 := by rw [hw1]; simp
  have HK1 := Lib.hid K1
  clear hw1 K1
  refine (c_Clone (HM.out.next hB_w1).rd (HE.out.bd j hJ)).mono ?_
  rintro e w2 ⟨bx, gm', gs', rfl, r1, r2, r3, ⟨vm', vs', vc', vi', vo', sv', hcl⟩, hb2⟩
  have hB_w2 := hB_w1.next hb2
  have HK2 := Lib.hid (HK1.out.next hb2)
  have HO := Lib.hid (hcl.own r2 r3)
  have HRD := Lib.hid hcl.rd
  have hbx : bx < w2.heap.size := hcl.lt
  have hlen := mc_len (tr im.code M j) vm' vs' vc' vi' vo' hcl.rl
  have hone : ∀ v ∈ mcells (tr im.code M j) vm' vs' vc' vi' vo', v.oneCell' = true := by
    obtain ⟨_, _, rfl, _⟩ := hcl.rd.m; obtain ⟨_, _, rfl, _⟩ := hcl.rd.s; obtain ⟨_, _, rfl, _⟩ := hcl.l.2.1; obtain ⟨_, _, rfl, _⟩ := hcl.l.2.2.1; obtain ⟨_, _, rfl, _⟩ := hcl.l.2.2.2
    exact mc_one rfl rfl rfl rfl rfl
  have HONE := Lib.hid hone; have HLEN := Lib.hid hlen
  clear hcl hb2 hone hlen
  go_wp2_with (first | (refine wpList_loadG 30 rfl rfl rfl (load_mach HRD.out) ?_; simp only [Act.put, List.setIfInBounds_toArray, List.set_cons_succ, List.set_cons_zero]) | (refine wpList_store_row rfl 30 (.tmp 2) (.tmp 11) rfl w.heap.size (mcells (tr im.code M j) vm' vs' vc' vi' vo').toArray rfl rfl 30 #[.int .i64 0, .int .i64 0, .int .i64 0, .int .i64 0, .int .i64 0, .int .i64 0, .int .i64 0, .int .i64 0, .int .i64 0, .int .i64 0, .int .i64 0, .int .i64 0, .int .i64 0, .int .i64 0, .int .i64 0, .int .i64 0, .int .i64 0, .int .i64 0, .slice none 0 0, .slice none 0 0, .slice none 0 0, .int .i64 0, .int .i64 0, .slice none 0 0, .slice none 0 0] HK2.out (by rw [info_mach25]; simp [HLEN.out]) (by simp [HLEN.out]) (all_oneCell_toArray HONE.out) ?_; simp only [Act.put, List.setIfInBounds_toArray, List.set_cons_succ, List.set_cons_zero]))
  generalize hw9 : World.setRow _ _ _ = w9
  have hf9 : Fr (· = w.heap.size) w2 w9 := by rw [← hw9]; exact (Fr.setRow _ _ _).mono (fun k hk => hk)
  have hB9 : Below w.heap.size w w9 := ((Fr.of hB_w2).trans (hf9.mono (O' := (· = w.heap.size)) (fun k hk => hk))).below (Nat.le_refl _) (fun k hk => by omega)
  have HKF : Hid (Blk w9 w.heap.size 30 (mcells (tr im.code M j) vm' vs' vc' vi' vo').toArray) := by rw [← hw9]; exact Lib.hid (setRow_heap _ _ _ _ _ _ HK2.out)
  have HO9 : Hid (MOwn w9 w.heap.size (tr im.code M j) vm' vs' vc' vi' vo' sv') := Lib.hid ((HO.out.fr hf9 (fun k hk e => by omega)).mono (by omega))
  clear hw9 HK2 HK1 hf9
  (try simp only [Exit.inBlock, Exit.then])
  refine bodyPost_ret_by (results_cell_row rfl _ _ w.heap.size _ _ _ _ rfl HKF.out Tryd.underlying30 rfl (by rw [info_mach25]; simp [HLEN.out])) rfl ?_
  exact ⟨_, _, _, _, _, _, rfl, HO9.out, hB9⟩
set_option maxRecDepth 100000 in
set_option maxHeartbeats 2000000 in
theorem c_VMachineNil (w : World) :
    Calls Tryd.prog 30 #[.pointer none] w fun e w' => e = .returned (.agg #[.int .i64 0, .int .i64 0, .int .i64 0, .int .i64 0, .int .i64 0, .int .i64 0, .int .i64 0, .int .i64 0, .int .i64 0, .int .i64 0, .int .i64 0, .int .i64 0, .int .i64 0, .int .i64 0, .int .i64 0, .int .i64 0, .int .i64 0, .int .i64 0, .slice none 0 0, .slice none 0 0, .slice none 0 0, .int .i64 0, .int .i64 0, .slice none 0 0, .slice none 0 0]) ∧ Below w.heap.size w w' := by
  go_enter Tryd.func30, Tryd.ntmps30
  go_wp2_with (refine wpList_store_row rfl 30 (.tmp 2) (.tmp 5) rfl w.heap.size #[.int .i64 0, .int .i64 0, .int .i64 0, .int .i64 0, .int .i64 0, .int .i64 0, .int .i64 0, .int .i64 0, .int .i64 0, .int .i64 0, .int .i64 0, .int .i64 0, .int .i64 0, .int .i64 0, .int .i64 0, .int .i64 0, .int .i64 0, .int .i64 0, .slice none 0 0, .slice none 0 0, .slice none 0 0, .int .i64 0, .int .i64 0, .slice none 0 0, .slice none 0 0] rfl rfl 30 #[.int .i64 0, .int .i64 0, .int .i64 0, .int .i64 0, .int .i64 0, .int .i64 0, .int .i64 0, .int .i64 0, .int .i64 0, .int .i64 0, .int .i64 0, .int .i64 0, .int .i64 0, .int .i64 0, .int .i64 0, .int .i64 0, .int .i64 0, .int .i64 0, .slice none 0 0, .slice none 0 0, .slice none 0 0, .int .i64 0, .int .i64 0, .slice none 0 0, .slice none 0 0] (heap_alloc_new w _) (by rw [info_mach25]; rfl) rfl (by simp [Value.oneCell']) ?_; simp only [Act.put, List.setIfInBounds_toArray, List.set_cons_succ, List.set_cons_zero])
  generalize hw9 : World.setRow _ _ _ = w9
  have hB9 : Below w.heap.size w w9 := by rw [← hw9]; exact ((Fr.of (by repeat' (first | (with_reducible assumption) | (with_reducible exact Below.refl _ _) | (with_reducible refine Below.alloc ?_ ?_ _) | (with_reducible refine Bk.drewN_ ?_ _) | (with_reducible refine Below.drew ?_) | (with_reducible refine Below.setCell ?_ ?_ _) | go_size))).trans ((Fr.setRow _ _ _).mono (O' := (· = w.heap.size)) (fun k hk => hk))).below (Nat.le_refl _) (fun k hk => by omega)
  have HKF : Hid (Blk w9 w.heap.size 30 #[.int .i64 0, .int .i64 0, .int .i64 0, .int .i64 0, .int .i64 0, .int .i64 0, .int .i64 0, .int .i64 0, .int .i64 0, .int .i64 0, .int .i64 0, .int .i64 0, .int .i64 0, .int .i64 0, .int .i64 0, .int .i64 0, .int .i64 0, .int .i64 0, .slice none 0 0, .slice none 0 0, .slice none 0 0, .int .i64 0, .int .i64 0, .slice none 0 0, .slice none 0 0]) := by rw [← hw9]; exact Lib.hid (setRow_heap _ _ _ _ _ _ (heap_alloc_new w _))
  clear hw9
  (try simp only [Exit.inBlock, Exit.then])
  refine bodyPost_ret_by (results_cell_row rfl _ _ w.heap.size _ _ _ _ rfl HKF.out Tryd.underlying30 rfl (by rw [info_mach25]; rfl)) rfl ?_
  exact ⟨rfl, hB9⟩
end Go.Proofs.YtfpcblgkcbfdoaaDoor

/- The walks of the VM's Run, RunBack. -/
set_option maxRecDepth 100000
set_option linter.unusedVariables false
set_option linter.unusedSimpArgs false
namespace Go.Proofs.YtfpcblgkcbfdoaaDoor
open Go.RowKit Bk
theorem c_VRunNil (w : World) : Calls Tryd.prog 29 #[.pointer none] w fun e w' => e = .returned (.tuple #[.int .i64 0, .int .i64 1]) ∧ Below w.heap.size w w' := by
  go_enter Tryd.func29, Tryd.ntmps29
  go_wp2_with fail
  go_ret2
  exact ⟨rfl, by repeat' (first | (with_reducible assumption) | (with_reducible exact Below.refl _ _) | (with_reducible refine Below.alloc ?_ ?_ _) | (with_reducible refine Bk.drewN_ ?_ _) | (with_reducible refine Below.drew ?_) | (with_reducible refine Below.setCell ?_ ?_ _) | go_size)⟩
set_option maxHeartbeats 4000000 in
theorem c_repeatRun {w : World} {P : Pl} {A : Option Addr} {n cap : Nat} {im : Img} {M : Mach} {J j f : Nat} (hX : VFx w P A n cap im) (hE : VEnv im M J) (hJ : j + f ≤ J) (hf : f ≤ 1000000000) (hj : j ≤ 1000000000) (hA : VAt w P im.code M j f) :
    Calls Tryd.prog 43 #[.func (.func 44) #[.pointer (some ⟨P.b, 0, none⟩)] #[], .func (.func 45) #[.pointer (some ⟨P.b, 0, none⟩)] #[]] w fun e w' => e = .returned (.tuple #[.int .i64 (runV im.code M f j), .int .i64 (endE im.code M (f - runV im.code M f j) (j + runV im.code M f j))]) ∧ VAt w' P im.code M (j + runV im.code M f j) (f - runV im.code M f j) ∧ Fr P.O w w' := by
  have HX := Lib.hid hX; have HE := Lib.hid hE; have HA := Lib.hid hA
  have hle := runV_le im.code M f j
  have hlt := fun i => runV_lt (code := im.code) (M := M) f j i
  have hst := runV_stop (code := im.code) (M := M) f j
  generalize runV im.code M f j = N at *
  obtain ⟨ee, hee⟩ : ∃ ee, endE im.code M (f - N) (j + N) = ee := ⟨_, rfl⟩
  rw [hee]
  have HEE := Lib.hid hee; have HLT := Lib.hid hlt; have HST := Lib.hid hst
  clear hX hE hA hee hlt hst
  go_enter Tryd.func43, Tryd.ntmps43
  go_wp2_with fail
  go_loopw [6] (fun v6 wr => ∃ i : Nat, i ≤ N ∧ v6 = .int .i64 i ∧ VAt wr P im.code M (j + i) (f - i) ∧ Fr P.O w wr) (fun v _ => N - (intOf v).toNat)
  case atStart => exact ⟨0, Nat.zero_le _, rfl, HA.out, Fr.refl _ _⟩
  case round =>
    obtain ⟨i, hi, rfl, ha, hfr⟩ := hrel
    have HAi := Lib.hid ha; have HFi := Lib.hid hfr
    have HXi := Lib.hid (HX.out.fr hfr)
    clear ha hfr
    have hc := c_VHalted HXi.out HE.out (j := j + i) (by omega) HAi.out
    by_cases h1 : halt im.code (tr im.code M (j + i)) = true
    · obtain rfl : i = N := by
        rcases Nat.lt_or_ge i N with h | h
        · have := (HLT.out i h).1; rw [h1] at this; cases this
        · omega
      obtain rfl : 0 = ee := by rw [← HEE.out]; unfold endE; rw [if_pos h1]
      rw [h1] at hc
      have HC := Lib.hid hc
      clear hc h1
      go_wp2_with fail
      refine HC.out.mono ?_
      rintro e w2 ⟨rfl, hb2⟩
      go_wp2_with fail
      go_ret2
      exact ⟨rfl, HAi.out.next hb2, HFi.out.next hb2⟩
    · have h1' : halt im.code (tr im.code M (j + i)) = false := by simpa using h1
      rw [h1'] at hc
      have HC := Lib.hid hc
      clear hc h1
      go_wp2_with fail
      refine HC.out.mono ?_
      rintro e w2 ⟨rfl, hb2⟩
      have HA2 := Lib.hid (HAi.out.next hb2); have HX2 := Lib.hid (HXi.out.next hb2); have HF2 := Lib.hid (HFi.out.next hb2)
      clear hb2
      go_wp2_with fail
      by_cases h2 : i < N
      · have hs := c_VStepOk (j := j + i) (f := f - i - 1) HX2.out HE.out (by omega) (by omega) (by omega) (by rw [show f - i - 1 + 1 = f - i by have := (HLT.out i h2).2.2; omega]; exact HA2.out) (HLT.out i h2).2.1
        refine hs.mono ?_
        rintro e w3 ⟨rfl, ha3, hf3⟩
        have HF3 := Lib.hid (HF2.out.trans hf3)
        have HA3 := Lib.hid ha3
        clear hs ha3 hf3
        go_wp2_with fail
        refine ⟨⟨i + 1, by omega, by go_num, ?_, HF3.out⟩, by simp [intOf]; omega⟩
        have := HA3.out
        rw [show f - i - 1 = f - (i + 1) by omega, show j + i + 1 = j + (i + 1) by omega] at this
        exact this
      · obtain rfl : i = N := by omega
        by_cases h3 : f - i = 0
        · obtain rfl : 18 = ee := by rw [← HEE.out]; unfold endE; rw [h1', h3]; rfl
          have hA2 := HA2.out
          rw [h3] at hA2
          refine (c_VStep0 HX2.out hA2).mono ?_
          rintro e w3 ⟨rfl, hb3⟩
          clear hA2
          go_wp2_with fail
          go_ret2
          exact ⟨rfl, HA2.out.next hb3, HF2.out.next hb3⟩
        · have h4 : te im.code M (j + i) ≠ 0 := by
            rcases HST.out with h | h | h
            · rw [h1'] at h; cases h
            · omega
            · exact h
          have he : ee = te im.code M (j + i) := by rw [← HEE.out]; unfold endE; rw [h1', if_neg (by simp), if_neg h3]
          have hs := c_VStepErr (j := j + i) (f := f - i - 1) HX2.out HE.out (by omega) (by omega) (by omega) (by rw [show f - i - 1 + 1 = f - i by omega]; exact HA2.out) h4
          rw [← he] at hs h4
          have h5 : (ee != 0) = true := by simpa using h4
          clear he
          refine hs.mono ?_
          rintro e w3 ⟨rfl, ha3, hf3⟩
          have HF3 := Lib.hid (HF2.out.trans hf3)
          have HA3 := Lib.hid ha3
          clear hs ha3 hf3 h4
          go_wp2_with fail
          go_ret2
          refine ⟨rfl, ?_, HF3.out⟩
          have := HA3.out
          rw [show f - i - 1 + 1 = f - i by omega] at this
          exact this
set_option maxHeartbeats 4000000 in
theorem c_VRun {w : World} {P : Pl} {A : Option Addr} {n cap : Nat} {im : Img} {M : Mach} {J j f : Nat} (hX : VFx w P A n cap im) (hE : VEnv im M J) (hJ : j + f ≤ J) (hf : f ≤ 1000000000) (hj : j ≤ 1000000000) (hA : VAt w P im.code M j f) :
    Calls Tryd.prog 29 #[.pointer (some ⟨P.b, 0, none⟩)] w fun e w' => e = .returned (.tuple #[.int .i64 (runV im.code M f j), .int .i64 (endE im.code M (f - runV im.code M f j) (j + runV im.code M f j))]) ∧ VAt w' P im.code M (j + runV im.code M f j) (f - runV im.code M f j) ∧ Fr P.O w w' := by
  have hmf : ∀ (fn : Fn) (first cap : Array Value) (w : World), (Instr.makeFunc fn first cap).run Tryd.prog w = .ok (.func fn first cap) w := fun _ _ _ _ => rfl
  have HS := Lib.hid (c_repeatRun hX hE hJ hf hj hA)
  clear hX hE hA
  generalize runV im.code M f j = N at *
  generalize endE im.code M (f - N) (j + N) = ee at *
  go_enter Tryd.func29, Tryd.ntmps29
  go_wp2_with fail
  refine HS.out.mono ?_
  rintro e w2 ⟨rfl, ha2, hf2⟩
  have HA2 := Lib.hid ha2; have HF2 := Lib.hid hf2
  clear ha2 hf2
  go_wp2_with fail
  go_ret2
  exact ⟨rfl, HA2.out, HF2.out⟩
end Go.Proofs.YtfpcblgkcbfdoaaDoor
