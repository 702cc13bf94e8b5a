/- Several texts in one: CpuP CpuQ. -/
import Derived.Test.YtbijhlgdilkopaaGreatDoorZCpuM
import Derived.Test.YtbijhlgdilkopaaGreatDoorZCpuO
import Derived.Test.YtbijhlgdilkopaaGreatDoorPa
set_option linter.unusedVariables false
set_option linter.unusedSimpArgs false
/- The walks of package cpu: enter and leave joined; step. -/
set_option maxRecDepth 100000
set_option linter.unusedVariables false
namespace Go.Proofs.YtbijhlgdilkopaaGreatDoor
open Go.RowKit Bk
variable {w : World} {D : Nat → Prop} {P : Pl} {M : Mach} {vm vs vc vi vo : Value} {sv : List Value}


theorem c_enter (h : MOn w P M vm vs vc vi vo sv) {A : Option Addr} {n : Nat} (cap : Nat) {code : Prg} (hE : Env w P A n code) (mem st : Int) (k : Nat) (hk : k < code.length) (hd : M.dir = 1 ∨ M.dir = -1) (hv : (code.getD k default).valid = true) (hop : (code.getD k default).op = 30 ∨ (code.getD k default).op = 31) (hcl : M.calls.length ≤ 100) :
    Calls Tryz.prog 70 #[.agg #[.slice A n cap, .int .i64 mem, .int .i64 st], .pointer (some ⟨P.b, P.off, none⟩), .int .i64 k] w (OnM P (enter code M k) w) := by
  obtain ⟨s, hs⟩ : ∃ s, (code.getD k default).a = s := ⟨_, rfl⟩
  obtain ⟨pt, pb, hp⟩ : ∃ pt pb, partner code s = (pt, pb) := ⟨_, _, rfl⟩
  have e1 : enter code M k = if pb = false then (23, M) else if 100 ≤ M.calls.length then (19, M)
      else (0, { M with calls := M.calls ++ [((k : Int), decide ((code.getD k default).op = 31))], dir := if decide ((code.getD k default).op = 31) = true then -M.dir else M.dir,
                        pc := if (if decide ((code.getD k default).op = 31) = true then -M.dir else M.dir) > 0 then s + 1 else pt }) := by
    unfold enter; rw [hs, hp]
  cases pb with
  | false =>
    refine OnM.of (x := (23, M)) ?_ (by rw [e1]; rfl)
    rcases hop with hop | hop
    · exact enter_none30 h cap hE mem st k hk hd hv hop s hs (by rw [hp])
    · exact enter_none31 h cap hE mem st k hk hd hv hop s hs (by rw [hp])
  | true =>
    have hin := partner_inv (code := code) (i := s) (by rw [hp])
    have hl := hE.hl
    by_cases h100 : 100 ≤ M.calls.length
    · refine OnM.of (x := (19, M)) ?_ (by rw [e1, if_neg (by simp), if_pos h100])
      rcases hop with hop | hop
      · exact enter_deep30 h cap hE mem st k hk hd hv hop s hs pt hp h100 hcl
      · exact enter_deep31 h cap hE mem st k hk hd hv hop s hs pt hp h100 hcl
    · rw [if_neg (by simp), if_neg h100] at e1
      rw [e1]
      rcases hop with hop | hop <;> rcases hd with hdir | hdir
      · refine OnM.of (enter_ok30a h cap hE mem st k hk (.inl hdir) hv hop s hs (by omega) (by omega) pt hp (by omega) hdir) ?_
        rw [hop, hdir]; simp
      · refine OnM.of (enter_ok30b h cap hE mem st k hk (.inr hdir) hv hop s hs (by omega) (by omega) pt hp (by omega) hdir) ?_
        rw [hop, hdir]; simp
      · refine OnM.of (enter_ok31a h cap hE mem st k hk (.inl hdir) hv hop s hs (by omega) (by omega) pt hp (by omega) hdir) ?_
        rw [hop, hdir]; simp
      · refine OnM.of (enter_ok31b h cap hE mem st k hk (.inr hdir) hv hop s hs (by omega) (by omega) pt hp (by omega) hdir) ?_
        rw [hop, hdir]; simp

theorem c_leave (h : MOn w P M vm vs vc vi vo sv) {A : Option Addr} {n : Nat} (cap : Nat) {code : Prg} (hE : Env w P A n code) (mem st : Int) (k : Nat) (hk : k < code.length) (hd : M.dir = 1 ∨ M.dir = -1) (hv : (code.getD k default).valid = true) (hop : (code.getD k default).op = 32 ∨ (code.getD k default).op = 33) (hcl : M.calls.length ≤ 100) (hcs : ∀ a ∈ M.calls, 0 ≤ a.1 ∧ a.1 < code.length) :
    Calls Tryz.prog 71 #[.agg #[.slice A n cap, .int .i64 mem, .int .i64 st], .pointer (some ⟨P.b, P.off, none⟩), .int .i64 k] w (OnM P (leave code M k) w) := by
  by_cases hway : decide ((code.getD k default).op = 33) ≠ decide (M.dir > 0)
  · refine OnM.of (x := (23, M)) ?_ (by unfold leave; simp only; rw [if_pos (.inl hway)])
    rcases hop with hop | hop <;> rcases hd with hdir | hdir
    · exact leave_way32 h cap hE mem st k hk (.inl hdir) hv hop _ rfl hdir hcl
    · rw [hop, hdir] at hway; exact absurd rfl hway
    · rw [hop, hdir] at hway; exact absurd rfl hway
    · exact leave_way33 h cap hE mem st k hk (.inr hdir) hv hop _ rfl hdir hcl
  have hway' : decide ((code.getD k default).op = 33) = decide (M.dir > 0) := Classical.not_not.1 hway
  by_cases h0 : M.calls.length = 0
  · refine OnM.of (x := (23, M)) ?_ (by unfold leave; simp only; rw [if_pos (.inr h0)])
    rcases hop with hop | hop <;> rcases hd with hdir | hdir
    · rw [hop, hdir] at hway'; simp at hway'
    · exact leave_none32 h cap hE mem st k hk (.inr hdir) hv hop _ rfl hdir hcl h0
    · exact leave_none33 h cap hE mem st k hk (.inl hdir) hv hop _ rfl hdir hcl h0
    · rw [hop, hdir] at hway'; simp at hway'
  obtain ⟨site, tu, hlc⟩ : ∃ site tu, M.calls.getLastD (0, false) = (site, tu) := ⟨_, _, rfl⟩
  have hmem : (site, tu) ∈ M.calls := by rw [← back_calls h0, hlc]; simp
  obtain ⟨q, rfl⟩ := nat_of (hcs _ hmem).1
  have hq : q < code.length := by have := (hcs _ hmem).2; simp only at this; omega
  have hl : leave code M k = if code.getD q default ≠ ⟨if tu = true then 31 else 30, (if (code.getD k default).op = 33 then (code.getD k default).a else (k : Int)), 0, 0, 0⟩ then (23, M)
      else (0, { M with calls := M.calls.dropLast, dir := if tu = true then -M.dir else M.dir, pc := behind q (if tu = true then -M.dir else M.dir) }) := by
    unfold leave; simp only [hlc, Int.toNat_natCast]
    rw [if_neg (by intro g; rcases g with g | g; exact hway g; exact h0 g)]
  rw [hl]
  rcases hop with hop | hop <;> rcases hd with hdir | hdir
  · rw [hop, hdir] at hway'; simp at hway'
  · rw [if_neg (show ¬ (code.getD k default).op = 33 by omega)]
    cases tu with
    | false =>
      by_cases hc : code.getD q default = ⟨30, (k : Int), 0, 0, 0⟩
      · refine OnM.of (leave_ok32a h cap hE mem st k hk (.inr hdir) hv hop _ rfl hdir hcl h0 q hq hlc hc) ?_
        rw [if_neg (fun g => g hc)]; simp [hdir, behind]
      · refine OnM.of (leave_bad32a h cap hE mem st k hk (.inr hdir) hv hop _ rfl hdir hcl h0 q hq hlc hc) ?_
        exact if_pos hc
    | true =>
      by_cases hc : code.getD q default = ⟨31, (k : Int), 0, 0, 0⟩
      · refine OnM.of (leave_ok32b h cap hE mem st k hk (.inr hdir) hv hop _ rfl hdir hcl h0 q hq hlc hc) ?_
        rw [if_neg (fun g => g hc)]; simp [hdir, behind]
      · refine OnM.of (leave_bad32b h cap hE mem st k hk (.inr hdir) hv hop _ rfl hdir hcl h0 q hq hlc hc) ?_
        exact if_pos hc
  · rw [if_pos hop]
    cases tu with
    | false =>
      by_cases hc : code.getD q default = ⟨30, (code.getD k default).a, 0, 0, 0⟩
      · refine OnM.of (leave_ok33a h cap hE mem st k hk (.inl hdir) hv hop _ rfl hdir hcl h0 q hq hlc hc) ?_
        rw [if_neg (fun g => g hc)]; simp [hdir, behind]
      · refine OnM.of (leave_bad33a h cap hE mem st k hk (.inl hdir) hv hop _ rfl hdir hcl h0 q hq hlc hc) ?_
        exact if_pos hc
    | true =>
      by_cases hc : code.getD q default = ⟨31, (code.getD k default).a, 0, 0, 0⟩
      · refine OnM.of (leave_ok33b h cap hE mem st k hk (.inl hdir) hv hop _ rfl hdir hcl h0 q hq hlc hc) ?_
        rw [if_neg (fun g => g hc)]; simp [hdir, behind]
      · refine OnM.of (leave_bad33b h cap hE mem st k hk (.inl hdir) hv hop _ rfl hdir hcl h0 q hq hlc hc) ?_
        exact if_pos hc
  · rw [hop, hdir] at hway'; simp at hway'
end Go.Proofs.YtbijhlgdilkopaaGreatDoor

/- The walk of cpu.step: no instruction, halt, calls, returns. -/
set_option maxRecDepth 100000
set_option maxHeartbeats 8000000
set_option maxRecDepth 100000
set_option linter.unusedVariables false
set_option linter.unusedSimpArgs false
namespace Go.Proofs.YtbijhlgdilkopaaGreatDoor
open Go.RowKit Bk
variable {w : World} {D : Nat → Prop} {P : Pl} {M : Mach} {vm vs vc vi vo : Value} {sv : List Value}
theorem step_outF (h : MOn w P M vm vs vc vi vo sv) {A : Option Addr} {n : Nat} (cap : Nat) {code : Prg} (hE : Env w P A n code) (mem st : Int) (p0 : 0 ≤ M.pc) (p1 : M.pc ≤ code.length) (hd : M.dir = 1) (hx : (code.length : Int) ≤ M.pc) :
    Calls Tryz.prog 54 #[.agg #[.slice A n cap, .int .i64 mem, .int .i64 st], .pointer (some ⟨P.b, P.off, none⟩)] w (OnM P (4, M) w) := by
  have HM := Lib.hid h; have HE := Lib.hid hE; have hn6 : n ≤ 65536 := (by rw [hE.hn]; exact hE.hl); have e0 := h.c0; have e1 := h.c1; have z0 := h.frozen P.off; have hblt := h.lt; obtain ⟨pc, hpc⟩ : ∃ pc, M.pc = pc := ⟨_, rfl⟩; rw [hpc] at e0 p0 p1; have p2 : pc ≤ n := (by rw [hE.hn]; exact p1); have HPC := Lib.hid hpc
  rw [hd] at e1
  have hx' : (n : Int) ≤ pc := by rw [← hpc, hE.hn]; exact hx
  have hx2 : decide (pc < 0) = false := by simp; omega
  have hx3 : decide ((n : Int) ≤ pc) = true := by simp; omega
  obtain ⟨b, tt, pre, post, off, gm, gs, fx⟩ := P
  dsimp only at *
  have hbne : b ≠ w.heap.size := by omega
  clear h hE hd hx hx' hpc p1 p2
  go_enter Tryz.func54, Tryz.ntmps54
  go_wp2_with fail
  go_ret
  exact ⟨rfl, (HM.out.next (by go_grown)).mat, Fr.of (by go_grown)⟩
theorem step_outB (h : MOn w P M vm vs vc vi vo sv) {A : Option Addr} {n : Nat} (cap : Nat) {code : Prg} (hE : Env w P A n code) (mem st : Int) (p0 : 0 ≤ M.pc) (p1 : M.pc ≤ code.length) (hd : M.dir = -1) (hx : M.pc = 0) :
    Calls Tryz.prog 54 #[.agg #[.slice A n cap, .int .i64 mem, .int .i64 st], .pointer (some ⟨P.b, P.off, none⟩)] w (OnM P (4, M) w) := by
  have HM := Lib.hid h; have HE := Lib.hid hE; have hn6 : n ≤ 65536 := (by rw [hE.hn]; exact hE.hl); have e0 := h.c0; have e1 := h.c1; have z0 := h.frozen P.off; have hblt := h.lt; obtain ⟨pc, hpc⟩ : ∃ pc, M.pc = pc := ⟨_, rfl⟩; rw [hpc] at e0 p0 p1; have p2 : pc ≤ n := (by rw [hE.hn]; exact p1); have HPC := Lib.hid hpc
  rw [hd] at e1
  obtain rfl : pc = 0 := by rw [← hpc, hx]
  obtain ⟨b, tt, pre, post, off, gm, gs, fx⟩ := P
  dsimp only at *
  have hbne : b ≠ w.heap.size := by omega
  clear h hE hd hx hpc p1 p2
  go_enter Tryz.func54, Tryz.ntmps54
  go_wp2_with fail
  go_ret
  exact ⟨rfl, (HM.out.next (by go_grown)).mat, Fr.of (by go_grown)⟩

theorem step_halt (h : MOn w P M vm vs vc vi vo sv) {A : Option Addr} {n : Nat} (cap : Nat) {code : Prg} (hE : Env w P A n code) (mem st : Int) (k : Nat) (hk : k < code.length) (hdp : (M.dir = 1 ∧ M.pc = (k : Int)) ∨ (M.dir = -1 ∧ M.pc = (k : Int) + 1)) (hv : (code.getD k default).valid = true) (o : Int) (hop : (code.getD k default).op = o) (ho : o = 34) :
    Calls Tryz.prog 54 #[.agg #[.slice A n cap, .int .i64 mem, .int .i64 st], .pointer (some ⟨P.b, P.off, none⟩)] w (OnM P (4, M) w) := by
  subst ho
  obtain ⟨bc, oc, rfl⟩ := hE.form hk
  have HM := Lib.hid h; have HE := Lib.hid hE; have HK := Lib.hid hk
  have hkn : k < n := by rw [hE.hn]; exact hk
  have hn6 : n ≤ 65536 := by rw [hE.hn]; exact hE.hl
  have hbc : bc < w.heap.size := (hE.hC.blk (by omega)).1
  have HV0 := Lib.hid hv; have HOP0 := Lib.hid hop
  obtain ⟨x, hx⟩ : ∃ x, code.getD k default = x := ⟨_, rfl⟩
  have HX := Lib.hid hx
  rw [hx] at hop hv
  have HXV := Lib.hid hv
  obtain ⟨x0, x1, x2, x3, x4⟩ := hE.at_ hk hx
  rw [hop] at x0
  have e0 := h.c0; have e1 := h.c1; have hblt := h.lt
  have i1 : (0 : Int) ≤ (k : Int) := by omega
  have i2 : (k : Int) < (n : Int) := by omega
  have k1 : decide ((k : Int) < 0) = false := by simp
  have k2 : decide (n ≤ k) = false := by simp; omega
  obtain ⟨b, tt, pre, post, off, gm, gs, fx⟩ := P
  dsimp only at *
  have hbne : b ≠ w.heap.size := by omega
  have HO : Hid (x = ⟨34, x.a, x.b, x.c, x.d⟩) := Lib.hid (by obtain ⟨q0, q1, q2, q3, q4⟩ := x; simp only at hop; rw [hop])
  clear h hE hk hx hv hop
  rcases hdp with ⟨hd, hpc⟩ | ⟨hd, hpc⟩
  all_goals
    rw [hd] at e1
    rw [hpc] at e0
    have HD := Lib.hid hd; have HPC := Lib.hid hpc
    clear hd hpc
    go_enter Tryz.func54, Tryz.ntmps54
    go_wp2_with fail
    go_ret
    exact ⟨rfl, (HM.out.next (by go_grown)).mat, Fr.of (by go_grown)⟩
theorem step_call (h : MOn w P M vm vs vc vi vo sv) {A : Option Addr} {n : Nat} (cap : Nat) {code : Prg} (hE : Env w P A n code) (mem st : Int) (k : Nat) (hk : k < code.length) (hdp : (M.dir = 1 ∧ M.pc = (k : Int)) ∨ (M.dir = -1 ∧ M.pc = (k : Int) + 1)) (hv : (code.getD k default).valid = true) (o : Int) (hop : (code.getD k default).op = o) (ho : o = 30 ∨ o = 31) (hcl : M.calls.length ≤ 100) :
    Calls Tryz.prog 54 #[.agg #[.slice A n cap, .int .i64 mem, .int .i64 st], .pointer (some ⟨P.b, P.off, none⟩)] w (OnM P (enter code M k) w) := by
  have HHO := Lib.hid ho
  have q34 : (o == 34) = false := by rw [beq_eq_false_iff_ne]; omega
  have o0 : 0 ≤ o := by omega
  have qq : (o == 30) = true ∨ ((o == 30) = false ∧ (o == 31) = true) := by rcases ho with rfl | rfl <;> simp
  have HQ := Lib.hid qq
  clear ho qq
  obtain ⟨bc, oc, rfl⟩ := hE.form hk
  have HM := Lib.hid h; have HE := Lib.hid hE; have HK := Lib.hid hk
  have hkn : k < n := by rw [hE.hn]; exact hk
  have hn6 : n ≤ 65536 := by rw [hE.hn]; exact hE.hl
  have hbc : bc < w.heap.size := (hE.hC.blk (by omega)).1
  have HV0 := Lib.hid hv; have HOP0 := Lib.hid hop
  obtain ⟨x, hx⟩ : ∃ x, code.getD k default = x := ⟨_, rfl⟩
  have HX := Lib.hid hx
  rw [hx] at hop hv
  have HXV := Lib.hid hv
  obtain ⟨x0, x1, x2, x3, x4⟩ := hE.at_ hk hx
  rw [hop] at x0
  have e0 := h.c0; have e1 := h.c1; have hblt := h.lt
  have i1 : (0 : Int) ≤ (k : Int) := by omega
  have i2 : (k : Int) < (n : Int) := by omega
  have k1 : decide ((k : Int) < 0) = false := by simp
  have k2 : decide (n ≤ k) = false := by simp; omega
  obtain ⟨b, tt, pre, post, off, gm, gs, fx⟩ := P
  dsimp only at *
  have hbne : b ≠ w.heap.size := by omega
  have HO : Hid (x = ⟨o, x.a, x.b, x.c, x.d⟩) := Lib.hid (by obtain ⟨q0, q1, q2, q3, q4⟩ := x; simp only at hop; rw [hop])
  clear h hE hk hx hv hop
  rcases hdp with ⟨hd, hpc⟩ | ⟨hd, hpc⟩
  all_goals
    rw [hd] at e1
    rw [hpc] at e0
    have HD := Lib.hid hd; have HPC := Lib.hid hpc
    clear hd hpc
    go_enter Tryz.func54, Tryz.ntmps54
    go_wp2_with fail
    refine (c_Valid' o x.a x.b x.c x.d (v := true) (by have := HXV.out; rw [HO.out] at this; exact this) (by omega) _ (HE.out.hT.next (by go_grown))).mono ?_
    rintro e w2 ⟨rfl, hb2⟩
    have hB_w2 : Below w.heap.size w w2 := Below.next (by go_grown) hb2
    have K_1 : Blk w2 (w.heap.size) 82 #[.slice (some ⟨bc, oc, none⟩) n cap, .int .i64 mem, .int .i64 st] := Blk.next (by repeat' (first | with_reducible exact H_1.out | with_reducible exact K0_1 | (refine Blk.new' ?_ _ _; simp; done) | with_reducible refine Blk.alloc ?_ _ | with_reducible refine Blk.drewN ?_ _ | with_reducible refine Blk.drew ?_)) hb2; have K_2 : Blk w2 (w.heap.size + 1) 102 #[.int .u8 o, .int .i64 x.a, .int .i64 x.b, .int .i64 x.c, .int .i64 x.d] := Blk.next (by repeat' (first | with_reducible exact H_2.out | with_reducible exact K0_2 | (refine Blk.new' ?_ _ _; simp; done) | with_reducible refine Blk.alloc ?_ _ | with_reducible refine Blk.drewN ?_ _ | with_reducible refine Blk.drew ?_)) hb2; (try clear H_1); (try clear T_1); (try clear z_1); (try clear F_1); (try clear H_2); (try clear T_2); (try clear z_2); (try clear F_2); obtain ⟨z_1, T_1, F_1⟩ := K_1.open_; have H_1 := Lib.hid K_1; clear K_1; obtain ⟨z_2, T_2, F_2⟩ := K_2.open_; have H_2 := Lib.hid K_2; clear K_2
    clear hb2 x0 x1 x2 x3 x4 e0 e1
    have Hm2 := Lib.hid (HM.out.next hB_w2); have He2 := Lib.hid (HE.out.next hB_w2)
    have e0 := Hm2.out.c0; have e1 := Hm2.out.c1; have z0 := Hm2.out.frozen off
    dsimp only at e0 e1 z0
    rw [HD.out] at e1
    rw [HPC.out] at e0
    rcases HQ.out with qq | ⟨qq, qr⟩
    all_goals
      go_wp2_with fail
      refine (c_enter Hm2.out cap He2.out mem st k HK.out (by first | exact .inl HD.out | exact .inr HD.out) HV0.out (by rw [HOP0.out]; exact HHO.out) hcl).mono ?_
      rintro e w3 ⟨rfl, hm3, hf3⟩
      go_wp2_with fail
      go_ret
      exact ⟨rfl, hm3, (Fr.of hB_w2).trans hf3⟩
theorem step_ret (h : MOn w P M vm vs vc vi vo sv) {A : Option Addr} {n : Nat} (cap : Nat) {code : Prg} (hE : Env w P A n code) (mem st : Int) (k : Nat) (hk : k < code.length) (hdp : (M.dir = 1 ∧ M.pc = (k : Int)) ∨ (M.dir = -1 ∧ M.pc = (k : Int) + 1)) (hv : (code.getD k default).valid = true) (o : Int) (hop : (code.getD k default).op = o) (ho : o = 32 ∨ o = 33) (hcl : M.calls.length ≤ 100) (hcs : ∀ a ∈ M.calls, 0 ≤ a.1 ∧ a.1 < code.length) :
    Calls Tryz.prog 54 #[.agg #[.slice A n cap, .int .i64 mem, .int .i64 st], .pointer (some ⟨P.b, P.off, none⟩)] w (OnM P (leave code M k) w) := by
  have HHO := Lib.hid ho
  have q34 : (o == 34) = false := by rw [beq_eq_false_iff_ne]; omega
  have q30 : (o == 30) = false := by rw [beq_eq_false_iff_ne]; omega
  have q31 : (o == 31) = false := by rw [beq_eq_false_iff_ne]; omega
  have o0 : 0 ≤ o := by omega
  have qq : (o == 32) = true ∨ ((o == 32) = false ∧ (o == 33) = true) := by rcases ho with rfl | rfl <;> simp
  have HQ := Lib.hid qq
  clear ho qq
  obtain ⟨bc, oc, rfl⟩ := hE.form hk
  have HM := Lib.hid h; have HE := Lib.hid hE; have HK := Lib.hid hk
  have hkn : k < n := by rw [hE.hn]; exact hk
  have hn6 : n ≤ 65536 := by rw [hE.hn]; exact hE.hl
  have hbc : bc < w.heap.size := (hE.hC.blk (by omega)).1
  have HV0 := Lib.hid hv; have HOP0 := Lib.hid hop
  obtain ⟨x, hx⟩ : ∃ x, code.getD k default = x := ⟨_, rfl⟩
  have HX := Lib.hid hx
  rw [hx] at hop hv
  have HXV := Lib.hid hv
  obtain ⟨x0, x1, x2, x3, x4⟩ := hE.at_ hk hx
  rw [hop] at x0
  have e0 := h.c0; have e1 := h.c1; have hblt := h.lt
  have i1 : (0 : Int) ≤ (k : Int) := by omega
  have i2 : (k : Int) < (n : Int) := by omega
  have k1 : decide ((k : Int) < 0) = false := by simp
  have k2 : decide (n ≤ k) = false := by simp; omega
  obtain ⟨b, tt, pre, post, off, gm, gs, fx⟩ := P
  dsimp only at *
  have hbne : b ≠ w.heap.size := by omega
  have HO : Hid (x = ⟨o, x.a, x.b, x.c, x.d⟩) := Lib.hid (by obtain ⟨q0, q1, q2, q3, q4⟩ := x; simp only at hop; rw [hop])
  clear h hE hk hx hv hop
  rcases hdp with ⟨hd, hpc⟩ | ⟨hd, hpc⟩
  all_goals
    rw [hd] at e1
    rw [hpc] at e0
    have HD := Lib.hid hd; have HPC := Lib.hid hpc
    clear hd hpc
    go_enter Tryz.func54, Tryz.ntmps54
    go_wp2_with fail
    refine (c_Valid' o x.a x.b x.c x.d (v := true) (by have := HXV.out; rw [HO.out] at this; exact this) (by omega) _ (HE.out.hT.next (by go_grown))).mono ?_
    rintro e w2 ⟨rfl, hb2⟩
    have hB_w2 : Below w.heap.size w w2 := Below.next (by go_grown) hb2
    have K_1 : Blk w2 (w.heap.size) 82 #[.slice (some ⟨bc, oc, none⟩) n cap, .int .i64 mem, .int .i64 st] := Blk.next (by repeat' (first | with_reducible exact H_1.out | with_reducible exact K0_1 | (refine Blk.new' ?_ _ _; simp; done) | with_reducible refine Blk.alloc ?_ _ | with_reducible refine Blk.drewN ?_ _ | with_reducible refine Blk.drew ?_)) hb2; have K_2 : Blk w2 (w.heap.size + 1) 102 #[.int .u8 o, .int .i64 x.a, .int .i64 x.b, .int .i64 x.c, .int .i64 x.d] := Blk.next (by repeat' (first | with_reducible exact H_2.out | with_reducible exact K0_2 | (refine Blk.new' ?_ _ _; simp; done) | with_reducible refine Blk.alloc ?_ _ | with_reducible refine Blk.drewN ?_ _ | with_reducible refine Blk.drew ?_)) hb2; (try clear H_1); (try clear T_1); (try clear z_1); (try clear F_1); (try clear H_2); (try clear T_2); (try clear z_2); (try clear F_2); obtain ⟨z_1, T_1, F_1⟩ := K_1.open_; have H_1 := Lib.hid K_1; clear K_1; obtain ⟨z_2, T_2, F_2⟩ := K_2.open_; have H_2 := Lib.hid K_2; clear K_2
    clear hb2 x0 x1 x2 x3 x4 e0 e1
    have Hm2 := Lib.hid (HM.out.next hB_w2); have He2 := Lib.hid (HE.out.next hB_w2)
    have e0 := Hm2.out.c0; have e1 := Hm2.out.c1; have z0 := Hm2.out.frozen off
    dsimp only at e0 e1 z0
    rw [HD.out] at e1
    rw [HPC.out] at e0
    rcases HQ.out with qq | ⟨qq, qr⟩
    all_goals
      go_wp2_with fail
      refine (c_leave Hm2.out cap He2.out mem st k HK.out (by first | exact .inl HD.out | exact .inr HD.out) HV0.out (by rw [HOP0.out]; exact HHO.out) hcl hcs).mono ?_
      rintro e w3 ⟨rfl, hm3, hf3⟩
      go_wp2_with fail
      go_ret
      exact ⟨rfl, hm3, (Fr.of hB_w2).trans hf3⟩
end Go.Proofs.YtbijhlgdilkopaaGreatDoor
