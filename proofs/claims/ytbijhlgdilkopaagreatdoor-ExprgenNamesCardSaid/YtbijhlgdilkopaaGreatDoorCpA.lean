/- Several texts in one: CpuA CpuB CpuC. -/
import Derived.Test.YtbijhlgdilkopaaGreatDoorProg
import Derived.Test.YtbijhlgdilkopaaGreatDoorMh
import Derived.Outline
import Derived.Deep.RegionLawGrows
import Derived.IntWalk
set_option linter.unusedVariables false
set_option linter.unusedSimpArgs false
/- The walks of package cpu: find, exchange, shift. -/
set_option maxRecDepth 100000
set_option maxHeartbeats 8000000
set_option linter.unusedVariables false
namespace Go.Proofs.YtbijhlgdilkopaaGreatDoor
open Go.RowKit Bk
variable {w : World} {D : Nat → Prop} {P : Pl} {M : Mach} {vm vs vc vi vo : Value} {sv : List Value}

theorem c_find (h : MOn w P M vm vs vc vi vo sv) (k : Int) (hk0 : 0 ≤ k) (hk1 : k ≤ 16384) (hs0 : 0 ≤ M.sb) (hs1 : M.sb ≤ 16384) :
    Calls Tryz.prog 102 #[.pointer (some ⟨P.b, P.off, none⟩), .int .i64 k] w fun e w' => e = .returned (.tuple #[.int .i64 (find M k), .bool (decide (find M k < M.s.length))]) ∧ Below w.heap.size w w' := by
  obtain ⟨A, cap, hvs, _⟩ := h.s
  rw [h.l.1.1] at hvs
  have e19 := h.c19
  rw [hvs] at e19
  have e22 := h.c22
  generalize hn : M.s.length = n at *
  generalize hb : P.b = b at *
  generalize ho : P.off = off at *
  obtain ⟨sb, hsb⟩ : ∃ sb, M.sb = sb := ⟨_, rfl⟩
  rw [hsb] at hs0 hs1 e22
  obtain ⟨f, hf⟩ : ∃ f, find M k = f := ⟨_, rfl⟩
  rw [hf]
  unfold find at hf
  rw [hsb] at hf
  have HF := Lib.hid hf
  clear hf hsb hn hb ho hvs h
  by_cases hk : k = 0
  · subst hk
    go_enter Tryz.func102, Tryz.ntmps102
    go_wp2_with fail
    go_quiet (fail)
    go_wp2
    go_ret2
    have := HF.out
    simp at this
    subst this
    exact ⟨by simp, by repeat' (first | (with_reducible assumption) | (with_reducible exact Below.refl _ _) | (with_reducible refine Below.alloc ?_ ?_ _) | (with_reducible refine Bk.drewN_ ?_ _) | (with_reducible refine Below.drew ?_) | (with_reducible refine Below.setCell ?_ ?_ _) | go_size)⟩
  · have hk' : (k != 0) = true := by simpa using hk
    go_enter Tryz.func102, Tryz.ntmps102
    go_wp2_with fail
    go_quiet (fail)
    go_wp2
    go_ret2
    have := HF.out
    rw [if_pos hk] at this
    subst this
    exact ⟨by simp, by repeat' (first | (with_reducible assumption) | (with_reducible exact Below.refl _ _) | (with_reducible refine Below.alloc ?_ ?_ _) | (with_reducible refine Bk.drewN_ ?_ _) | (with_reducible refine Below.drew ?_) | (with_reducible refine Below.setCell ?_ ?_ _) | go_size)⟩

theorem c_exchange (h : MOn w P M vm vs vc vi vo sv) (r : Nat) (hr : r < 16) (k : Int) :
    Calls Tryz.prog 92 #[.pointer (some ⟨P.b, P.off, none⟩), .int .i64 r, .int .i64 k] w fun e w' => e = .returned (.int .i64 (exchange M r k).1) ∧ MAt w' P (exchange M r k).2 ∧ Fr P.O w w' := by
  have HM := Lib.hid h
  have e18 := h.c18
  have er : w.cell? ⟨P.b, P.off + 2 + r, none⟩ = some (.int .i64 (M.reg r)) := h.cr r hr
  by_cases hk : k < 0 ∨ (M.m.length : Int) ≤ k
  · have hx : exchange M r k = (12, M) := by unfold exchange; rw [if_pos hk]
    obtain ⟨A, cap, hvm, _⟩ := h.m
    rw [intCells_length] at hvm
    rw [hvm] at e18
    rw [hx]
    obtain ⟨b, tt, pre, post, off, gm, gs, fx⟩ := P
    dsimp only at *
    generalize hn : M.m.length = n at *
    clear h hvm hx er
    by_cases h0 : k < 0
    · have h0' : decide (k < 0) = true := by simpa using h0
      clear hk
      go_enter Tryz.func92, Tryz.ntmps92
      go_wp2_with fail
      go_ret
      exact ⟨rfl, HM.out.mat, Fr.refl _ _⟩
    · have h0' : decide (k < 0) = false := by simpa using h0
      have h1' : decide ((n : Int) ≤ k) = true := by simp; omega
      clear hk
      go_enter Tryz.func92, Tryz.ntmps92
      go_wp2_with fail
      go_ret
      exact ⟨rfl, HM.out.mat, Fr.refl _ _⟩
  · obtain ⟨j, rfl⟩ := Int.eq_ofNat_of_zero_le (show 0 ≤ k by omega)
    have hj : j < M.m.length := by omega
    have hx : exchange M r j = (0, (M.setR r (M.m.getD j 0)).setM j (M.reg r)) := by unfold exchange; rw [if_neg hk, Int.toNat_natCast]
    rw [hx]
    obtain ⟨cap, hvm, _, hc, hz⟩ := h.m.form (by rw [intCells_length]; omega)
    have ej := hc j _ (intCells_get _ j hj)
    have ezj := hz j
    have ezr := h.frozen (P.off + 2 + r)
    rw [intCells_length] at hvm
    rw [hvm] at e18
    have hne := (h.am (by omega)).1
    have HR : Hid (MOn _ P ((M.setR r (M.m.getD j 0)).setM j (M.reg r)) vm vs vc vi vo sv) := Lib.hid ((h.setReg r hr (M.m.getD j 0)).setMem j hj (M.reg r))
    obtain ⟨b, tt, pre, post, off, gm, gs, fx⟩ := P
    dsimp only at *
    generalize hn : M.m.length = n at *
    generalize hv1 : M.m.getD j 0 = v1 at *
    have i1 : (0 : Int) ≤ (j : Int) := by omega
    have i2 : (j : Int) < (n : Int) := by omega
    have i3 : (0 : Int) ≤ (r : Int) := by omega
    have i4 : (r : Int) < 16 := by omega
    have h0' : decide ((j : Int) < 0) = false := by simp
    have h1' : decide (n ≤ j) = false := by simp; omega
    clear h hvm hx hk hc hz hv1
    go_enter Tryz.func92, Tryz.ntmps92
    go_wp2_with fail
    go_region
    go_wp2
    go_ret
    exact ⟨rfl, (HR.out.next (by go_grown)).mat, (((Fr.refl _ _).set (.inl rfl) _).set (.inr (.inl rfl)) _).drew⟩

theorem c_shift (h : MOn w P M vm vs vc vi vo sv) (hB : MBd M) (c d : Int) (c0 : -16384 ≤ c) (c1 : c ≤ 16384) (d0 : -16384 ≤ d) (d1 : d ≤ 16384) :
    Calls Tryz.prog 93 #[.pointer (some ⟨P.b, P.off, none⟩), .int .i64 c, .int .i64 d] w fun e w' => e = .returned (.int .i64 (shift M c d).1) ∧ MAt w' P (shift M c d).2 ∧ Fr P.O w w' := by
  have HM := Lib.hid h
  have e18 := h.c18
  have e19 := h.c19
  have e21 := h.c21
  have e22 := h.c22
  obtain ⟨A, cap, hvm, _⟩ := h.m
  rw [intCells_length] at hvm
  rw [hvm] at e18
  obtain ⟨A', cap', hvs, _⟩ := h.s
  rw [h.l.1.1] at hvs
  rw [hvs] at e19
  have f0 := hB.f0; have f1 := hB.f1; have s0 := hB.s0; have s1 := hB.s1; have ml := hB.ml; have sl := hB.sl
  have ez1 := h.frozen (P.off + 21)
  have ez2 := h.frozen (P.off + 22)
  obtain ⟨x, hx⟩ : ∃ x, shift M c d = x := ⟨_, rfl⟩
  unfold shift at hx ⊢
  rw [hx]
  obtain ⟨b, tt, pre, post, off, gm, gs, fx⟩ := P
  dsimp only at *
  generalize hn : M.m.length = n at *
  generalize hn' : M.s.length = n' at *
  generalize hfp : M.fp = fp at *
  generalize hsb : M.sb = sb at *
  have HX := Lib.hid hx
  clear h hvm hvs hx hn hn' hfp hsb hB
  have w1 : IntKind.i64.wrap (fp + c) = fp + c := IntWalk.i64_in _ (by omega)
  have w2 : IntKind.i64.wrap (sb + d) = sb + d := IntWalk.i64_in _ (by omega)
  go_enter Tryz.func93, Tryz.ntmps93
  go_wp2_with fail
  go_quiet (fail)
  clear w1 w2
  by_cases h1 : fp + c < 0
  · have h1' : decide (fp + c < 0) = true := by simpa using h1
    rw [if_pos (.inl h1)] at HX
    have hx := HX.out; subst hx
    go_wp2_with fail
    go_ret
    exact ⟨rfl, (HM.out.next (by repeat' (first | (with_reducible assumption) | (with_reducible exact Below.refl _ _) | (with_reducible refine Below.alloc ?_ ?_ _) | (with_reducible refine Bk.drewN_ ?_ _) | (with_reducible refine Below.drew ?_) | (with_reducible refine Below.setCell ?_ ?_ _) | go_size))).mat, Fr.of (by repeat' (first | (with_reducible assumption) | (with_reducible exact Below.refl _ _) | (with_reducible refine Below.alloc ?_ ?_ _) | (with_reducible refine Bk.drewN_ ?_ _) | (with_reducible refine Below.drew ?_) | (with_reducible refine Below.setCell ?_ ?_ _) | go_size))⟩
  have h1' : decide (fp + c < 0) = false := by simpa using h1
  by_cases h2 : (n : Int) < fp + c
  · have h2' : decide ((n : Int) < fp + c) = true := by simpa using h2
    rw [if_pos (.inr (.inl h2))] at HX
    have hx := HX.out; subst hx
    go_wp2_with fail
    go_ret
    exact ⟨rfl, (HM.out.next (by repeat' (first | (with_reducible assumption) | (with_reducible exact Below.refl _ _) | (with_reducible refine Below.alloc ?_ ?_ _) | (with_reducible refine Bk.drewN_ ?_ _) | (with_reducible refine Below.drew ?_) | (with_reducible refine Below.setCell ?_ ?_ _) | go_size))).mat, Fr.of (by repeat' (first | (with_reducible assumption) | (with_reducible exact Below.refl _ _) | (with_reducible refine Below.alloc ?_ ?_ _) | (with_reducible refine Bk.drewN_ ?_ _) | (with_reducible refine Below.drew ?_) | (with_reducible refine Below.setCell ?_ ?_ _) | go_size))⟩
  have h2' : decide ((n : Int) < fp + c) = false := by simpa using h2
  by_cases h3 : sb + d < 0
  · have h3' : decide (sb + d < 0) = true := by simpa using h3
    rw [if_pos (.inr (.inr (.inl h3)))] at HX
    have hx := HX.out; subst hx
    go_wp2_with fail
    go_ret
    exact ⟨rfl, (HM.out.next (by repeat' (first | (with_reducible assumption) | (with_reducible exact Below.refl _ _) | (with_reducible refine Below.alloc ?_ ?_ _) | (with_reducible refine Bk.drewN_ ?_ _) | (with_reducible refine Below.drew ?_) | (with_reducible refine Below.setCell ?_ ?_ _) | go_size))).mat, Fr.of (by repeat' (first | (with_reducible assumption) | (with_reducible exact Below.refl _ _) | (with_reducible refine Below.alloc ?_ ?_ _) | (with_reducible refine Bk.drewN_ ?_ _) | (with_reducible refine Below.drew ?_) | (with_reducible refine Below.setCell ?_ ?_ _) | go_size))⟩
  have h3' : decide (sb + d < 0) = false := by simpa using h3
  by_cases h4 : (n' : Int) < sb + d
  · have h4' : decide ((n' : Int) < sb + d) = true := by simpa using h4
    rw [if_pos (.inr (.inr (.inr h4)))] at HX
    have hx := HX.out; subst hx
    go_wp2_with fail
    go_ret
    exact ⟨rfl, (HM.out.next (by repeat' (first | (with_reducible assumption) | (with_reducible exact Below.refl _ _) | (with_reducible refine Below.alloc ?_ ?_ _) | (with_reducible refine Bk.drewN_ ?_ _) | (with_reducible refine Below.drew ?_) | (with_reducible refine Below.setCell ?_ ?_ _) | go_size))).mat, Fr.of (by repeat' (first | (with_reducible assumption) | (with_reducible exact Below.refl _ _) | (with_reducible refine Below.alloc ?_ ?_ _) | (with_reducible refine Bk.drewN_ ?_ _) | (with_reducible refine Below.drew ?_) | (with_reducible refine Below.setCell ?_ ?_ _) | go_size))⟩
  have h4' : decide ((n' : Int) < sb + d) = false := by simpa using h4
  rw [if_neg (by omega)] at HX
  have hx := HX.out; subst hx
  clear h1 h2 h3 h4
  go_wp2_with fail
  go_ret
  exact ⟨rfl, (((HM.out.next (by repeat' (first | (with_reducible assumption) | (with_reducible exact Below.refl _ _) | (with_reducible refine Below.alloc ?_ ?_ _) | (with_reducible refine Bk.drewN_ ?_ _) | (with_reducible refine Below.drew ?_) | (with_reducible refine Below.setCell ?_ ?_ _) | go_size))).setFp _).setSb _).mat, ((Fr.of (by repeat' (first | (with_reducible assumption) | (with_reducible exact Below.refl _ _) | (with_reducible refine Below.alloc ?_ ?_ _) | (with_reducible refine Bk.drewN_ ?_ _) | (with_reducible refine Below.drew ?_) | (with_reducible refine Below.setCell ?_ ?_ _) | go_size))).set (.inl rfl) _).set (.inl rfl) _⟩
end Go.Proofs.YtbijhlgdilkopaaGreatDoor

/- The walks of slices.Clip, arith.Apply. -/
set_option linter.unusedVariables false
namespace Go.Proofs.YtbijhlgdilkopaaGreatDoor
open Go.RowKit Bk

theorem c_ClipInt (A : Option Addr) (n cap : Nat) (hn : n ≤ cap) (hA : A = none → cap = 0) (hmax : n ≤ 17592186044400) (w : World) :
    Calls Tryz.prog 65 #[.slice A n cap] w fun e w' => e = .returned (.slice A n n) ∧ w = w' := by
  have h0 : (0 : Int) ≤ (n : Int) := by omega
  have h1 : (n : Int) ≤ (cap : Int) := by omega
  cases A with
  | none =>
    obtain rfl : cap = 0 := hA rfl
    obtain rfl : n = 0 := by omega
    clear hA hn hmax h0 h1
    go_enter Tryz.func65, Tryz.ntmps65
    go_wp2_with fail
    go_ret
    exact ⟨rfl, rfl⟩
  | some ad =>
    obtain ⟨b, off, sp⟩ := ad
    clear hA
    go_enter Tryz.func65, Tryz.ntmps65
    go_wp2_with fail
    go_ret
    exact ⟨rfl, rfl⟩

theorem c_ClipAct (A : Option Addr) (n cap : Nat) (hn : n ≤ cap) (hA : A = none → cap = 0) (hmax : n ≤ 17592186044400) (w : World) :
    Calls Tryz.prog 86 #[.slice A n cap] w fun e w' => e = .returned (.slice A n n) ∧ w = w' := by
  have h0 : (0 : Int) ≤ (n : Int) := by omega
  have h1 : (n : Int) ≤ (cap : Int) := by omega
  cases A with
  | none =>
    obtain rfl : cap = 0 := hA rfl
    obtain rfl : n = 0 := by omega
    clear hA hn hmax h0 h1
    go_enter Tryz.func86, Tryz.ntmps86
    go_wp2_with fail
    go_ret
    exact ⟨rfl, rfl⟩
  | some ad =>
    obtain ⟨b, off, sp⟩ := ad
    clear hA
    go_enter Tryz.func86, Tryz.ntmps86
    go_wp2_with fail
    go_ret
    exact ⟨rfl, rfl⟩

theorem ca_number (b : Bool) (w : World) :
    Calls Tryz.prog 101 #[.bool b] w fun e w' => e = .returned (.int .i64 (if b then 1 else 0)) ∧ w = w' := by
  cases b <;> (go_enter Tryz.func101, Tryz.ntmps101; go_wp2_with fail; go_ret; exact ⟨rfl, rfl⟩)

theorem c_divide (op x y : Int) (hop : op = 11 ∨ op = 12) (w : World) :
    Calls Tryz.prog 100 #[.int .u8 op, .int .i64 x, .int .i64 y] w fun e w' => e = .returned (.tuple #[.int .i64 (apply op x y).1, .int .i64 (apply op x y).2]) ∧ w = w' := by
  by_cases hy : y = 0
  · subst hy
    rcases hop with rfl | rfl
    all_goals
      go_enter Tryz.func100, Tryz.ntmps100
      go_wp2_with fail
      go_ret2
      exact ⟨rfl, rfl⟩
  · have h0 : (y == 0) = false := by simpa using hy
    rcases hop with rfl | rfl
    · go_enter Tryz.func100, Tryz.ntmps100
      go_wp2_with fail
      go_ret2
      exact ⟨by simp [apply, hy], rfl⟩
    · go_enter Tryz.func100, Tryz.ntmps100
      go_wp2_with fail
      go_ret2
      exact ⟨by simp [apply, hy], rfl⟩

theorem c_Apply (op x y : Int) (w : World) :
    Calls Tryz.prog 91 #[.int .u8 op, .int .i64 x, .int .i64 y] w fun e w' => e = .returned (.tuple #[.int .i64 (apply op x y).1, .int .i64 (apply op x y).2]) ∧ w = w' := by
  by_cases hop : 8 ≤ op ∧ op ≤ 23
  · obtain e | e | e | e | e | e | e | e | e | e | e | e | e | e | e | e : op = 8 ∨ op = 9 ∨ op = 10 ∨ op = 11 ∨ op = 12 ∨ op = 13 ∨ op = 14 ∨ op = 15 ∨ op = 16 ∨ op = 17 ∨ op = 18 ∨ op = 19 ∨ op = 20 ∨ op = 21 ∨ op = 22 ∨ op = 23 := by omega
    all_goals subst e
    · go_enter Tryz.func91, Tryz.ntmps91
      go_wp2_with fail
      all_goals go_ret2
      all_goals exact ⟨by first | (simp [apply]; done) | (simp [apply]; omega) | (simp_all [apply]; done) | (simp_all [apply]; omega), rfl⟩
    · go_enter Tryz.func91, Tryz.ntmps91
      go_wp2_with fail
      all_goals go_ret2
      all_goals exact ⟨by first | (simp [apply]; done) | (simp [apply]; omega) | (simp_all [apply]; done) | (simp_all [apply]; omega), rfl⟩
    · go_enter Tryz.func91, Tryz.ntmps91
      go_wp2_with fail
      all_goals go_ret2
      all_goals exact ⟨by first | (simp [apply]; done) | (simp [apply]; omega) | (simp_all [apply]; done) | (simp_all [apply]; omega), rfl⟩
    · go_enter Tryz.func91, Tryz.ntmps91
      go_wp2_with (go_at_call 100; ((with_reducible refine (c_divide _ _ _ (by decide) _).mono ?_); rintro e w' ⟨rfl, rfl⟩))
      go_ret2
      exact ⟨rfl, rfl⟩
    · go_enter Tryz.func91, Tryz.ntmps91
      go_wp2_with (go_at_call 100; ((with_reducible refine (c_divide _ _ _ (by decide) _).mono ?_); rintro e w' ⟨rfl, rfl⟩))
      go_ret2
      exact ⟨rfl, rfl⟩
    · go_enter Tryz.func91, Tryz.ntmps91
      go_wp2_with fail
      all_goals go_ret2
      all_goals exact ⟨by first | (simp [apply]; done) | (simp [apply]; omega) | (simp_all [apply]; done) | (simp_all [apply]; omega), rfl⟩
    · go_enter Tryz.func91, Tryz.ntmps91
      go_wp2_with fail
      all_goals go_ret2
      all_goals exact ⟨by first | (simp [apply]; done) | (simp [apply]; omega) | (simp_all [apply]; done) | (simp_all [apply]; omega), rfl⟩
    · go_enter Tryz.func91, Tryz.ntmps91
      go_wp2_with fail
      all_goals go_ret2
      all_goals exact ⟨by first | (simp [apply]; done) | (simp [apply]; omega) | (simp_all [apply]; done) | (simp_all [apply]; omega), rfl⟩
    · go_enter Tryz.func91, Tryz.ntmps91
      go_wp2_with (go_at_call 101; ((with_reducible refine (ca_number _ _).mono ?_); rintro e w' ⟨rfl, rfl⟩))
      all_goals go_ret2
      all_goals exact ⟨by first | (simp [apply]; done) | (simp [apply]; omega) | (simp_all [apply]; done) | (simp_all [apply]; omega), rfl⟩
    · go_enter Tryz.func91, Tryz.ntmps91
      go_wp2_with (go_at_call 101; ((with_reducible refine (ca_number _ _).mono ?_); rintro e w' ⟨rfl, rfl⟩))
      all_goals go_ret2
      all_goals exact ⟨by first | (simp [apply]; done) | (simp [apply]; omega) | (simp_all [apply]; done) | (simp_all [apply]; omega), rfl⟩
    · go_enter Tryz.func91, Tryz.ntmps91
      go_wp2_with (go_at_call 101; ((with_reducible refine (ca_number _ _).mono ?_); rintro e w' ⟨rfl, rfl⟩))
      all_goals go_ret2
      all_goals exact ⟨by first | (simp [apply]; done) | (simp [apply]; omega) | (simp_all [apply]; done) | (simp_all [apply]; omega), rfl⟩
    · go_enter Tryz.func91, Tryz.ntmps91
      go_wp2_with (go_at_call 101; ((with_reducible refine (ca_number _ _).mono ?_); rintro e w' ⟨rfl, rfl⟩))
      all_goals go_ret2
      all_goals exact ⟨by first | (simp [apply]; done) | (simp [apply]; omega) | (simp_all [apply]; done) | (simp_all [apply]; omega), rfl⟩
    · go_enter Tryz.func91, Tryz.ntmps91
      go_wp2_with (go_at_call 101; ((with_reducible refine (ca_number _ _).mono ?_); rintro e w' ⟨rfl, rfl⟩))
      all_goals go_ret2
      all_goals exact ⟨by first | (simp [apply]; done) | (simp [apply]; omega) | (simp_all [apply]; done) | (simp_all [apply]; omega), rfl⟩
    · go_enter Tryz.func91, Tryz.ntmps91
      go_wp2_with (go_at_call 101; ((with_reducible refine (ca_number _ _).mono ?_); rintro e w' ⟨rfl, rfl⟩))
      all_goals go_ret2
      all_goals exact ⟨by first | (simp [apply]; done) | (simp [apply]; omega) | (simp_all [apply]; done) | (simp_all [apply]; omega), rfl⟩
    · by_cases hx : x = 0 <;> by_cases hy : y = 0
      all_goals
        go_enter Tryz.func91, Tryz.ntmps91
        go_wp2_with (go_at_call 101; ((with_reducible refine (ca_number _ _).mono ?_); rintro e w' ⟨rfl, rfl⟩))
        go_ret2
        exact ⟨by simp [apply, hx, hy], rfl⟩
    · by_cases hx : x = 0 <;> by_cases hy : y = 0
      all_goals
        go_enter Tryz.func91, Tryz.ntmps91
        go_wp2_with (go_at_call 101; ((with_reducible refine (ca_number _ _).mono ?_); rintro e w' ⟨rfl, rfl⟩))
        go_ret2
        exact ⟨by simp [apply, hx, hy], rfl⟩
  · have ha : apply op x y = (0, 7) := by
      unfold apply
      repeat (first | rw [if_neg (by omega)])
    rw [ha]
    by_cases h8 : op < 8
    · go_enter Tryz.func91, Tryz.ntmps91
      go_wp2_with fail
      go_ret2
      exact ⟨rfl, rfl⟩
    · have h23 : 23 < op := by omega
      clear hop
      go_enter Tryz.func91, Tryz.ntmps91
      go_wp2_with fail
      go_ret2
      exact ⟨rfl, rfl⟩
end Go.Proofs.YtbijhlgdilkopaaGreatDoor

/- The walks of package cpu: swap. -/
set_option maxRecDepth 100000
set_option maxHeartbeats 8000000
set_option linter.unusedVariables false
namespace Go.Proofs.YtbijhlgdilkopaaGreatDoor
open Go.RowKit Bk
variable {w : World} {D : Nat → Prop} {P : Pl} {M : Mach} {vm vs vc vi vo : Value} {sv : List Value}

theorem c_find' (h : MOn w P M vm vs vc vi vo sv) (k : Int) (hk0 : 0 ≤ k) (hk1 : k ≤ 16384) (hB : MBd M) {f : Int} {ok : Bool} (hf : find M k = f) (hok : decide (f < M.s.length) = ok) :
    Calls Tryz.prog 102 #[.pointer (some ⟨P.b, P.off, none⟩), .int .i64 k] w fun e w' => e = .returned (.tuple #[.int .i64 f, .bool ok]) ∧ Below w.heap.size w w' := by
  have := c_find h k hk0 hk1 hB.s0 hB.s1
  rw [hf, hok] at this; exact this

theorem c_swap (h : MOn w P M vm vs vc vi vo sv) (hB : MBd M) (k l : Int) (k0 : 0 ≤ k) (k1 : k ≤ 16384) (l0 : 0 ≤ l) (l1 : l ≤ 16384) :
    Calls Tryz.prog 94 #[.pointer (some ⟨P.b, P.off, none⟩), .int .i64 k, .int .i64 l] w fun e w' => e = .returned (.int .i64 (swapS M k l).1) ∧ MAt w' P (swapS M k l).2 ∧ Fr P.O w w' := by
  have HM := Lib.hid h
  have HB := Lib.hid hB
  obtain ⟨fa, hfa⟩ : ∃ fa : Nat, find M k = fa := ⟨(find M k).toNat, by have := hB.s0; unfold find; split <;> omega⟩
  obtain ⟨fb, hfb⟩ : ∃ fb : Nat, find M l = fb := ⟨(find M l).toNat, by have := hB.s0; unfold find; split <;> omega⟩
  obtain ⟨x, hx⟩ : ∃ x, swapS M k l = x := ⟨_, rfl⟩
  rw [hx]
  unfold swapS at hx
  rw [hfa, hfb] at hx
  simp only [Int.toNat_natCast] at hx
  have HX := Lib.hid hx
  have HFa := Lib.hid hfa
  have HFb := Lib.hid hfb
  have hbig := hB.sl
  obtain ⟨b, tt, pre, post, off, gm, gs, fx⟩ := P
  dsimp only at *
  clear h hB hx hfa hfb
  by_cases ha : fa < M.s.length
  case neg =>
    have ha' : decide ((fa : Int) < M.s.length) = false := by simp; omega
    rw [if_pos (by omega)] at HX
    have hx := HX.out; subst hx
    have HA := Lib.hid ha'
    clear ha ha' hbig
    go_enter Tryz.func94, Tryz.ntmps94
    go_wp2_with fail
    refine (c_find' HM.out k k0 k1 HB.out HFa.out HA.out).mono ?_
    rintro e w1 ⟨rfl, hb1⟩
    go_wp2_with fail
    go_ret
    exact ⟨rfl, (HM.out.next hb1).mat, Fr.of hb1⟩
  have ha' : decide ((fa : Int) < M.s.length) = true := by simp; omega
  rw [if_neg (by omega)] at HX
  have HA := Lib.hid ha'
  have HLa := Lib.hid ha
  clear ha ha'
  by_cases hb : fb < M.s.length
  case neg =>
    have hb' : decide ((fb : Int) < M.s.length) = false := by simp; omega
    rw [if_pos (by omega)] at HX
    have hx := HX.out; subst hx
    have HBb := Lib.hid hb'
    clear hb hb' hbig
    go_enter Tryz.func94, Tryz.ntmps94
    go_wp2_with fail
    refine (c_find' HM.out k k0 k1 HB.out HFa.out HA.out).mono ?_
    rintro e w1 ⟨rfl, hb1⟩
    have H1 := Lib.hid (HM.out.next hb1)
    go_wp2_with fail
    refine (c_find' H1.out l l0 l1 HB.out HFb.out HBb.out).mono ?_
    rintro e w2 ⟨rfl, hb2⟩
    go_wp2_with fail
    go_ret
    exact ⟨rfl, (H1.out.next hb2).mat, (Fr.of hb1).next hb2⟩
  have hb' : decide ((fb : Int) < M.s.length) = true := by simp; omega
  rw [if_neg (by omega)] at HX
  have HBb := Lib.hid hb'
  have HLb := Lib.hid hb
  clear hb hb'
  go_enter Tryz.func94, Tryz.ntmps94
  go_wp2_with fail
  refine (c_find' HM.out k k0 k1 HB.out HFa.out HA.out).mono ?_
  rintro e w1 ⟨rfl, hb1⟩
  have H1 := Lib.hid (HM.out.next hb1)
  go_wp2_with fail
  refine (c_find' H1.out l l0 l1 HB.out HFb.out HBb.out).mono ?_
  rintro e w2 ⟨rfl, hb2⟩
  have H2 := Lib.hid (H1.out.next hb2)
  have hbb : Below w.heap.size w w2 := hb1.next hb2
  obtain ⟨n, cap, rfl, hn, Aa, ca, ea, _, _, _, sa⟩ := H2.out.sv fa HLa.out
  obtain ⟨n', cap', e', _, Ab, cb, eb, _, _, _, sb⟩ := H2.out.sv fb HLb.out
  have e19 := H2.out.c19
  have za := H2.out.s.form (by rw [H2.out.l.1.1]; have := HLa.out; omega)
  obtain ⟨_, _, _, _, zz⟩ := za
  have za := zz fa
  have zb := zz fb
  have HSa := Lib.hid sa; have HSb := Lib.hid sb
  have i1 : (0 : Int) ≤ (fa : Int) := by omega
  have i2 : (fa : Int) < (n : Int) := by have := HLa.out; omega
  have i3 : (0 : Int) ≤ (fb : Int) := by omega
  have i4 : (fb : Int) < (n : Int) := by have := HLb.out; omega
  dsimp only at *
  obtain ⟨vz, hvz⟩ := cell?_setCell_some (w := w2) (p := ⟨gs, fa, none⟩) (x := .slice Ab (M.stk fb).length cb) (q := ⟨gs, fb, none⟩) (v := .slice Ab (M.stk fb).length cb) eb
  clear hb1 hb2 e' zz sa sb hn hbig
  by_cases c1 : fa = 0
  · by_cases c3 : fb = 0
    · have c1' : ((fa : Int) != 0) = false := by simp [c1]
      have c3' : ((fb : Int) != 0) = false := by simp [c3]
      rw [if_neg (by omega)] at HX
      have hx := HX.out; subst hx
      clear c1 c3
      (go_wp2_with fail; go_region; go_wp2; go_ret; exact ⟨rfl, ((H2.out.swapStk fa fb HLa.out HLb.out HSa.out HSb.out).next (by go_grown)).mat, ((((Fr.of hbb).set (.inr (.inr rfl)) _).set (.inr (.inr rfl)) _).drew)⟩)
    · have c1' : ((fa : Int) != 0) = false := by simp [c1]
      have c3' : ((fb : Int) != 0) = true := by simp [c3]
      by_cases c4 : 1000 < (M.stk fa).length
      · have c4' : decide (1000 < ((M.stk fa).length : Int)) = true := by simp; omega
        rw [if_pos (.inr (by omega))] at HX
        have hx := HX.out; subst hx
        clear c1 c3 c4
        (go_wp2_with fail; go_ret; exact ⟨rfl, H2.out.mat, Fr.of hbb⟩)
      · have c4' : decide (1000 < ((M.stk fa).length : Int)) = false := by simp; omega
        rw [if_neg (by omega)] at HX
        have hx := HX.out; subst hx
        clear c1 c3 c4
        (go_wp2_with fail; go_region; go_wp2; go_ret; exact ⟨rfl, ((H2.out.swapStk fa fb HLa.out HLb.out HSa.out HSb.out).next (by go_grown)).mat, ((((Fr.of hbb).set (.inr (.inr rfl)) _).set (.inr (.inr rfl)) _).drew)⟩)
  · have c1' : ((fa : Int) != 0) = true := by simp [c1]
    by_cases c2 : 1000 < (M.stk fb).length
    · have c2' : decide (1000 < ((M.stk fb).length : Int)) = true := by simp; omega
      rw [if_pos (.inl (by omega))] at HX
      have hx := HX.out; subst hx
      clear c1 c2
      (go_wp2_with fail; go_ret; exact ⟨rfl, H2.out.mat, Fr.of hbb⟩)
    · have c2' : decide (1000 < ((M.stk fb).length : Int)) = false := by simp; omega
      by_cases c3 : fb = 0
      · have c3' : ((fb : Int) != 0) = false := by simp [c3]
        rw [if_neg (by omega)] at HX
        have hx := HX.out; subst hx
        clear c1 c2 c3
        (go_wp2_with fail; go_region; go_wp2; go_ret; exact ⟨rfl, ((H2.out.swapStk fa fb HLa.out HLb.out HSa.out HSb.out).next (by go_grown)).mat, ((((Fr.of hbb).set (.inr (.inr rfl)) _).set (.inr (.inr rfl)) _).drew)⟩)
      · have c3' : ((fb : Int) != 0) = true := by simp [c3]
        by_cases c4 : 1000 < (M.stk fa).length
        · have c4' : decide (1000 < ((M.stk fa).length : Int)) = true := by simp; omega
          rw [if_pos (.inr (by omega))] at HX
          have hx := HX.out; subst hx
          clear c1 c2 c3 c4
          (go_wp2_with fail; go_ret; exact ⟨rfl, H2.out.mat, Fr.of hbb⟩)
        · have c4' : decide (1000 < ((M.stk fa).length : Int)) = false := by simp; omega
          rw [if_neg (by omega)] at HX
          have hx := HX.out; subst hx
          clear c1 c2 c3 c4
          (go_wp2_with fail; go_region; go_wp2; go_ret; exact ⟨rfl, ((H2.out.swapStk fa fb HLa.out HLb.out HSa.out HSb.out).next (by go_grown)).mat, ((((Fr.of hbb).set (.inr (.inr rfl)) _).set (.inr (.inr rfl)) _).drew)⟩)
end Go.Proofs.YtbijhlgdilkopaaGreatDoor
