/- The walks of package cpu: leave, the good way. -/
import Derived.Test.YtbijhlgdilkopaaGreatDoorZCpuN
set_option linter.unusedVariables false
set_option linter.unusedSimpArgs false
set_option maxRecDepth 100000
set_option maxHeartbeats 8000000
set_option maxRecDepth 100000
namespace Go.Proofs.YtbijhlgdilkopaaGreatDoor
open Go.RowKit Bk
variable {w : World} {D : Nat → Prop} {P : Pl} {M : Mach} {vm vs vc vi vo : Value} {sv : List Value}

theorem Sl.popA {w : World} {D : Nat → Prop} {A : Option Addr} {c m : Nat} {l : List (Int × Bool)} (hl : l.length = m + 1) (hc : m + 1 ≤ c) (hA : A = none → c = 0) (h : Rd w D 2 A (m + 1) (actCells l)) : Sl w D 2 (.slice A m c) l.dropLast.length (actCells l.dropLast) := by
  have e : l.dropLast.length = m := by simp [hl]
  rw [e]
  refine ⟨A, c, rfl, by omega, hA, by rw [actCells_length, e], fun hm => ?_⟩
  obtain ⟨b, off, ea, hd, hcell⟩ := h.2 (by omega)
  refine ⟨b, off, ea, hd, fun j u hu => hcell j u ?_⟩
  have hne : l ≠ [] := by intro h0; rw [h0] at hl; simp at hl
  rw [← List.dropLast_concat_getLast hne, actCells_append, List.getElem?_append_left]
  · exact hu
  · rcases Nat.lt_or_ge j (actCells l.dropLast).length with h | h
    · exact h
    · rw [List.getElem?_eq_none h] at hu; cases hu
theorem Sl.up {w w' : World} {P : Pl} {size n : Nat} {v : Value} {xs : List Value} (h : Sl w (P.D w) size v n xs) (hb : Below w.heap.size w w') : Sl w' (P.D w') size v n xs :=
  h.keep (fun b o hd => cell_up hd.1 hb) fun k hk => ⟨Nat.lt_of_lt_of_le hk.1 hb.size, hk.2⟩
theorem wp_name {Q : Program} {c : Code} {R : Exit → Act → World → Prop} {a : Act} {w : World} (h : ∀ w', w' = w → c.wp Q R a w') : c.wp Q R a w := h w rfl
theorem calls_name {Q : Program} {f : FuncId} {args : Array Value} {R : Ending → World → Prop} {w : World} (h : ∀ w', w' = w → Calls Q f args w' R) : Calls Q f args w R := h w rfl

theorem leave_ok32a (h : MOn w P M vm vs vc vi vo sv) {A : Option Addr} {n : Nat} (cap : Nat) {code : Prg} (hE : Env w P A n code) (mem st : Int) (k : Nat) (hk : k < code.length) (hd : M.dir = 1 ∨ M.dir = -1) (hv : (code.getD k default).valid = true) (hop : (code.getD k default).op = 32) (s : Int) (hs : (k : Int) = s) (hdir : M.dir = -1) (hcl : M.calls.length ≤ 100) (h0 : M.calls.length ≠ 0) (q : Nat) (hq : q < code.length) (hlc : M.calls.getLastD (0, false) = ((q : Int), false)) (hcall : code.getD q default = ⟨30, s, 0, 0, 0⟩) :
    Calls Tryz.prog 71 #[.agg #[.slice A n cap, .int .i64 mem, .int .i64 st], .pointer (some ⟨P.b, P.off, none⟩), .int .i64 k] w (OnM P (0, { M with calls := M.calls.dropLast, pc := (q : Int) }) w) := by
  obtain ⟨bc, oc, rfl⟩ := hE.form hk; have HM := Lib.hid h; have HE := Lib.hid hE; have HK := Lib.hid hk; have hkn : k < n := (by rw [hE.hn]; exact hk); have hn6 : n ≤ 65536 := (by rw [hE.hn]; exact hE.hl); obtain ⟨x, hx⟩ : ∃ x, code.getD k default = x := ⟨_, rfl⟩; have HX := Lib.hid hx; obtain ⟨dd, hdd⟩ : ∃ dd, M.dir = dd := ⟨_, rfl⟩; have HDD := Lib.hid hdd; have d0 : -1 ≤ dd := (by omega); have d1 : dd ≤ 1 := (by omega); have i1 : (0 : Int) ≤ (k : Int) := (by omega); have i2 : (k : Int) < (n : Int) := (by omega); have HD := Lib.hid hd; obtain ⟨b, tt, pre, post, off, gm, gs, fx⟩ := P; dsimp only at *; clear h hE hk hx hdd hd
  rw [HX.out] at hv hop; have HXV := Lib.hid hv; have HOP := Lib.hid hop; obtain rfl : dd = -1 := (by rw [← HDD.out, hdir]); clear hv hop hdir d0 d1
  have hbc : bc < w.heap.size := (HE.out.hC.blk (by omega)).1; have hblt : b < w.heap.size := HM.out.lt; have hbne : b ≠ w.heap.size := (by omega); have hB_w := Below.refl w.heap.size w; have Hm_w := Lib.hid (HM.out.next hB_w); have Ev_w := Lib.hid (HE.out.next hB_w); obtain ⟨x0, x1, x2, x3, x4⟩ := Ev_w.out.at_ HK.out HX.out; have e1 := Hm_w.out.c1; have e0 := Hm_w.out.c0; have z0 := Hm_w.out.frozen off; rw [HDD.out] at e1; dsimp only at e0 e1 z0; rw [HOP.out] at x0; have e20 := HM.out.c20; have z20 := HM.out.frozen (off + 20); dsimp only at e20 z20; obtain ⟨Ac, cc, rfl, hcc, hAc, hRc⟩ := HM.out.l.2.1
  subst hs
  obtain ⟨m, hm⟩ : ∃ m, M.calls.length = m + 1 := ⟨M.calls.length - 1, by omega⟩; have HM1 := Lib.hid hm; rw [HM1.out] at e20 hRc hcc hcl; obtain ⟨bs, os, rfl, hds, hcell⟩ := hRc.2 (by omega); have hbs : bs < w.heap.size := hds.1; have hcg := actCells_get M.calls m (by omega); have hlast : M.calls.getD m (0, false) = ((q : Int), false) := (by rw [List.getLastD_eq_getLast?, List.getLast?_eq_getElem?, HM1.out, Nat.add_sub_cancel, ← List.getD_eq_getElem?_getD] at hlc; exact hlc); rw [hlast] at hcg; have el0 := hcell (m * 2) _ hcg.1; have el1 := hcell (m * 2 + 1) _ hcg.2; rw [← Nat.add_assoc] at el1; have j1 : (0 : Int) ≤ (m : Int) := (by omega); have j2 : (m : Int) < (m : Int) + 1 := (by omega); have j3 : (m : Int) ≤ 100 := (by omega); have hcs' : m ≤ cc := (by omega); have HRc := Lib.hid hRc; have HAc := Lib.hid hAc; have HCc := Lib.hid hcc; have HQ := Lib.hid hq; have hqn : q < n := (by rw [HE.out.hn]; exact hq); have q1 : (0 : Int) ≤ (q : Int) := (by omega); have q2 : (q : Int) < (n : Int) := (by omega); obtain ⟨y, hy⟩ : ∃ y, code.getD q default = y := ⟨_, rfl⟩; have HY := Lib.hid hy; rw [hy] at hcall; obtain ⟨y0, y1, y2, y3, y4⟩ := HE.out.at_ HQ.out HY.out; clear hm hcell hcg hlast hlc hRc hAc hcc hq hy hds
  have hneq : (!decide ((⟨y.op, y.a, y.b, y.c, y.d⟩ : Ins) = ⟨30, (k : Int), 0, 0, 0⟩)) = false := by simp only [Bool.not_eq_false', decide_eq_true_iff]; exact hcall
  have hnq := fun W => neqIns W y.op y.a y.b y.c y.d 30 (k : Int) 0 0 0 hneq
  clear hneq hcall
  go_enter Tryz.func71, Tryz.ntmps71
  go_wp2_with fail
  go_quiet (fail)
  rename_i nq
  obtain ⟨wq, hwq⟩ : ∃ wq : World, wq = ((w.alloc (.cells #[.slice (some ⟨bc, oc, none⟩) n cap, .int .i64 mem, .int .i64 st] 82)).alloc (.cells #[.int .u8 (32), .int .i64 (x.a), .int .i64 (x.b), .int .i64 (x.c), .int .i64 (x.d)] 102)).drewN nq := ⟨_, rfl⟩
  rw [← hwq]
  have hB_wq : Below w.heap.size w wq := by rw [hwq]; exact (by repeat' (first | (with_reducible assumption) | (with_reducible exact Below.refl _ _) | (with_reducible refine Below.alloc ?_ ?_ _) | (with_reducible refine Bk.drewN_ ?_ _) | (with_reducible refine Below.drew ?_) | (with_reducible refine Below.setCell ?_ ?_ _) | go_size))
  have KI : Blk wq w.heap.size 82 #[.slice (some ⟨bc, oc, none⟩) n cap, .int .i64 mem, .int .i64 st] := by rw [hwq]; exact (by repeat' (first | assumption | exact Blk.new' (by simp) _ _ | apply Blk.alloc | apply Blk.drew))
  have Kx : Blk wq (w.heap.size + 1) 102 #[.int .u8 (32), .int .i64 (x.a), .int .i64 (x.b), .int .i64 (x.c), .int .i64 (x.d)] := by rw [hwq]; exact (by repeat' (first | assumption | exact Blk.new' (by simp) _ _ | apply Blk.alloc | apply Blk.drew))
  have f0 := (hB_wq.cell (p := ⟨bs, os + m * 2, none⟩) hbs).trans el0
  have f1 := (hB_wq.cell (p := ⟨bs, os + m * 2 + 1, none⟩) hbs).trans el1
  clear hwq e20 z20 e1 e0 z0 el0 el1 x0 x1 x2 x3 x4 y0 y1 y2 y3 y4
  have HQM := Lib.hid (HM.out.next hB_wq)
  have HQE := Lib.hid (HE.out.next hB_wq)
  obtain ⟨y0, y1, y2, y3, y4⟩ := HQE.out.at_ HQ.out HY.out
  have e20 := HQM.out.c20; have z20 := HQM.out.frozen (off + 20); have e1 := HQM.out.c1; have e0 := HQM.out.c0; have z0 := HQM.out.frozen off
  rw [HDD.out] at e1
  rw [HM1.out] at e20
  obtain ⟨zI, TI, FI⟩ := KI.open_
  obtain ⟨zx, Tx, Fx⟩ := Kx.open_
  have HKI := Lib.hid KI
  have hblt2 : b < wq.heap.size := by omega
  have hbcq : bc < wq.heap.size := by omega
  have hbsq : bs < wq.heap.size := by omega
  dsimp only at e20 z20 e1 e0 z0
  clear KI Kx
  go_wp2_with fail
  go_quiet (fail)
  have hSl := Sl.popA HM1.out HCc.out HAc.out HRc.out
  have HSl := Lib.hid hSl
  clear hSl
  go_wp2_with fail
  clear e20 z20 e1 e0 z0
  refine wp_name ?_
  intro w4 hw4; have H4 : MOn w4 ⟨b, tt, pre, post, off, gm, gs, fx⟩ { M with calls := M.calls.dropLast } vm vs (.slice (some ⟨bs, os, none⟩) m cc) vi vo sv := (by rw [hw4]; exact (HQM.out.next (by repeat' (first | (with_reducible assumption) | (with_reducible exact Below.refl _ _) | (with_reducible refine Below.alloc ?_ ?_ _) | (with_reducible refine Bk.drewN_ ?_ _) | (with_reducible refine Below.drew ?_) | (with_reducible refine Below.setCell ?_ ?_ _) | go_size))).setCalls _ _ (Sl.up HSl.out (by repeat' (first | (with_reducible assumption) | (with_reducible exact Below.refl _ _) | (with_reducible refine Below.alloc ?_ ?_ _) | (with_reducible refine Bk.drewN_ ?_ _) | (with_reducible refine Below.drew ?_) | (with_reducible refine Below.setCell ?_ ?_ _) | go_size)))); have KA : Blk w4 wq.heap.size 118 #[.int .i64 q, .bool false] := (by rw [hw4]; refine Blk.far ?_ (p := ⟨b, off + 20, none⟩) (by simp; omega) _; exact (by repeat' (first | with_reducible assumption | (refine Blk.new' ?_ _ _; simp; done) | refine Blk.alloc ?_ _ | refine Blk.drewN ?_ _ | refine Blk.drew ?_))); have F4 : Fr (Pl.O ⟨b, tt, pre, post, off, gm, gs, fx⟩) w w4 := (by rw [hw4]; repeat' (first | (with_reducible exact Fr.refl _ _) | with_reducible assumption | (with_reducible refine Fr.drew ?_) | (with_reducible refine Fr.drewN ?_ _) | (with_reducible refine Fr.alloc ?_ _) | (with_reducible refine Fr.set ?_ ?_ _) | exact Or.inl rfl | exact Or.inr (Or.inl rfl) | exact Or.inr (Or.inr rfl) | (refine Fr.of ?_; assumption))); clear hw4
  obtain ⟨zA, TA, FA⟩ := KA.open_
  have H5 := Lib.hid H4
  have e0 := H5.out.c0; have z0 := H5.out.frozen off; have e1 := H5.out.c1
  dsimp only at e0 z0 e1
  rw [HDD.out] at e1
  clear KA
  go_region_with (go_at_call 88; ((with_reducible refine (c_behind q (-1) q1 (by omega) _).mono ?_); rintro e w' ⟨rfl, rfl⟩))
  all_goals (go_wp2_with fail; go_ret; exact ⟨rfl, (H5.out.setPc _).matE rfl, by repeat' (first | with_reducible (first | assumption | apply Fr.refl | apply Fr.drew | apply Fr.drewN | apply Fr.alloc | apply Fr.set) | exact .inl rfl | exact .inr (.inl rfl) | exact .inr (.inr rfl) | (apply Fr.of; assumption))⟩)

theorem leave_ok32b (h : MOn w P M vm vs vc vi vo sv) {A : Option Addr} {n : Nat} (cap : Nat) {code : Prg} (hE : Env w P A n code) (mem st : Int) (k : Nat) (hk : k < code.length) (hd : M.dir = 1 ∨ M.dir = -1) (hv : (code.getD k default).valid = true) (hop : (code.getD k default).op = 32) (s : Int) (hs : (k : Int) = s) (hdir : M.dir = -1) (hcl : M.calls.length ≤ 100) (h0 : M.calls.length ≠ 0) (q : Nat) (hq : q < code.length) (hlc : M.calls.getLastD (0, false) = ((q : Int), true)) (hcall : code.getD q default = ⟨31, s, 0, 0, 0⟩) :
    Calls Tryz.prog 71 #[.agg #[.slice A n cap, .int .i64 mem, .int .i64 st], .pointer (some ⟨P.b, P.off, none⟩), .int .i64 k] w (OnM P (0, { M with calls := M.calls.dropLast, dir := 1, pc := (q : Int) + 1 }) w) := by
  obtain ⟨bc, oc, rfl⟩ := hE.form hk; have HM := Lib.hid h; have HE := Lib.hid hE; have HK := Lib.hid hk; have hkn : k < n := (by rw [hE.hn]; exact hk); have hn6 : n ≤ 65536 := (by rw [hE.hn]; exact hE.hl); obtain ⟨x, hx⟩ : ∃ x, code.getD k default = x := ⟨_, rfl⟩; have HX := Lib.hid hx; obtain ⟨dd, hdd⟩ : ∃ dd, M.dir = dd := ⟨_, rfl⟩; have HDD := Lib.hid hdd; have d0 : -1 ≤ dd := (by omega); have d1 : dd ≤ 1 := (by omega); have i1 : (0 : Int) ≤ (k : Int) := (by omega); have i2 : (k : Int) < (n : Int) := (by omega); have HD := Lib.hid hd; obtain ⟨b, tt, pre, post, off, gm, gs, fx⟩ := P; dsimp only at *; clear h hE hk hx hdd hd
  rw [HX.out] at hv hop; have HXV := Lib.hid hv; have HOP := Lib.hid hop; obtain rfl : dd = -1 := (by rw [← HDD.out, hdir]); clear hv hop hdir d0 d1
  have hbc : bc < w.heap.size := (HE.out.hC.blk (by omega)).1; have hblt : b < w.heap.size := HM.out.lt; have hbne : b ≠ w.heap.size := (by omega); have hB_w := Below.refl w.heap.size w; have Hm_w := Lib.hid (HM.out.next hB_w); have Ev_w := Lib.hid (HE.out.next hB_w); obtain ⟨x0, x1, x2, x3, x4⟩ := Ev_w.out.at_ HK.out HX.out; have e1 := Hm_w.out.c1; have e0 := Hm_w.out.c0; have z0 := Hm_w.out.frozen off; rw [HDD.out] at e1; dsimp only at e0 e1 z0; rw [HOP.out] at x0; have e20 := HM.out.c20; have z20 := HM.out.frozen (off + 20); dsimp only at e20 z20; obtain ⟨Ac, cc, rfl, hcc, hAc, hRc⟩ := HM.out.l.2.1
  subst hs
  obtain ⟨m, hm⟩ : ∃ m, M.calls.length = m + 1 := ⟨M.calls.length - 1, by omega⟩; have HM1 := Lib.hid hm; rw [HM1.out] at e20 hRc hcc hcl; obtain ⟨bs, os, rfl, hds, hcell⟩ := hRc.2 (by omega); have hbs : bs < w.heap.size := hds.1; have hcg := actCells_get M.calls m (by omega); have hlast : M.calls.getD m (0, false) = ((q : Int), true) := (by rw [List.getLastD_eq_getLast?, List.getLast?_eq_getElem?, HM1.out, Nat.add_sub_cancel, ← List.getD_eq_getElem?_getD] at hlc; exact hlc); rw [hlast] at hcg; have el0 := hcell (m * 2) _ hcg.1; have el1 := hcell (m * 2 + 1) _ hcg.2; rw [← Nat.add_assoc] at el1; have j1 : (0 : Int) ≤ (m : Int) := (by omega); have j2 : (m : Int) < (m : Int) + 1 := (by omega); have j3 : (m : Int) ≤ 100 := (by omega); have hcs' : m ≤ cc := (by omega); have HRc := Lib.hid hRc; have HAc := Lib.hid hAc; have HCc := Lib.hid hcc; have HQ := Lib.hid hq; have hqn : q < n := (by rw [HE.out.hn]; exact hq); have q1 : (0 : Int) ≤ (q : Int) := (by omega); have q2 : (q : Int) < (n : Int) := (by omega); obtain ⟨y, hy⟩ : ∃ y, code.getD q default = y := ⟨_, rfl⟩; have HY := Lib.hid hy; rw [hy] at hcall; obtain ⟨y0, y1, y2, y3, y4⟩ := HE.out.at_ HQ.out HY.out; clear hm hcell hcg hlast hlc hRc hAc hcc hq hy hds
  have hneq : (!decide ((⟨y.op, y.a, y.b, y.c, y.d⟩ : Ins) = ⟨31, (k : Int), 0, 0, 0⟩)) = false := by simp only [Bool.not_eq_false', decide_eq_true_iff]; exact hcall
  have hnq := fun W => neqIns W y.op y.a y.b y.c y.d 31 (k : Int) 0 0 0 hneq
  clear hneq hcall
  go_enter Tryz.func71, Tryz.ntmps71
  go_wp2_with fail
  go_quiet (fail)
  rename_i nq
  obtain ⟨wq, hwq⟩ : ∃ wq : World, wq = ((w.alloc (.cells #[.slice (some ⟨bc, oc, none⟩) n cap, .int .i64 mem, .int .i64 st] 82)).alloc (.cells #[.int .u8 (32), .int .i64 (x.a), .int .i64 (x.b), .int .i64 (x.c), .int .i64 (x.d)] 102)).drewN nq := ⟨_, rfl⟩
  rw [← hwq]
  have hB_wq : Below w.heap.size w wq := by rw [hwq]; exact (by repeat' (first | (with_reducible assumption) | (with_reducible exact Below.refl _ _) | (with_reducible refine Below.alloc ?_ ?_ _) | (with_reducible refine Bk.drewN_ ?_ _) | (with_reducible refine Below.drew ?_) | (with_reducible refine Below.setCell ?_ ?_ _) | go_size))
  have KI : Blk wq w.heap.size 82 #[.slice (some ⟨bc, oc, none⟩) n cap, .int .i64 mem, .int .i64 st] := by rw [hwq]; exact (by repeat' (first | assumption | exact Blk.new' (by simp) _ _ | apply Blk.alloc | apply Blk.drew))
  have Kx : Blk wq (w.heap.size + 1) 102 #[.int .u8 (32), .int .i64 (x.a), .int .i64 (x.b), .int .i64 (x.c), .int .i64 (x.d)] := by rw [hwq]; exact (by repeat' (first | assumption | exact Blk.new' (by simp) _ _ | apply Blk.alloc | apply Blk.drew))
  have f0 := (hB_wq.cell (p := ⟨bs, os + m * 2, none⟩) hbs).trans el0
  have f1 := (hB_wq.cell (p := ⟨bs, os + m * 2 + 1, none⟩) hbs).trans el1
  clear hwq e20 z20 e1 e0 z0 el0 el1 x0 x1 x2 x3 x4 y0 y1 y2 y3 y4
  have HQM := Lib.hid (HM.out.next hB_wq)
  have HQE := Lib.hid (HE.out.next hB_wq)
  obtain ⟨y0, y1, y2, y3, y4⟩ := HQE.out.at_ HQ.out HY.out
  have e20 := HQM.out.c20; have z20 := HQM.out.frozen (off + 20); have e1 := HQM.out.c1; have e0 := HQM.out.c0; have z0 := HQM.out.frozen off
  rw [HDD.out] at e1
  rw [HM1.out] at e20
  obtain ⟨zI, TI, FI⟩ := KI.open_
  obtain ⟨zx, Tx, Fx⟩ := Kx.open_
  have HKI := Lib.hid KI
  have hblt2 : b < wq.heap.size := by omega
  have hbcq : bc < wq.heap.size := by omega
  have hbsq : bs < wq.heap.size := by omega
  dsimp only at e20 z20 e1 e0 z0
  clear KI Kx
  go_wp2_with fail
  go_quiet (fail)
  have hSl := Sl.popA HM1.out HCc.out HAc.out HRc.out
  have HSl := Lib.hid hSl
  clear hSl
  go_wp2_with fail
  clear e20 z20 e1 e0 z0
  refine calls_name ?_
  intro w4 hw4; have H4 : MOn w4 ⟨b, tt, pre, post, off, gm, gs, fx⟩ { M with calls := M.calls.dropLast } vm vs (.slice (some ⟨bs, os, none⟩) m cc) vi vo sv := (by rw [hw4]; exact (HQM.out.next (by repeat' (first | (with_reducible assumption) | (with_reducible exact Below.refl _ _) | (with_reducible refine Below.alloc ?_ ?_ _) | (with_reducible refine Bk.drewN_ ?_ _) | (with_reducible refine Below.drew ?_) | (with_reducible refine Below.setCell ?_ ?_ _) | go_size))).setCalls _ _ (Sl.up HSl.out (by repeat' (first | (with_reducible assumption) | (with_reducible exact Below.refl _ _) | (with_reducible refine Below.alloc ?_ ?_ _) | (with_reducible refine Bk.drewN_ ?_ _) | (with_reducible refine Below.drew ?_) | (with_reducible refine Below.setCell ?_ ?_ _) | go_size)))); have KA : Blk w4 wq.heap.size 118 #[.int .i64 q, .bool true] := (by rw [hw4]; refine Blk.far ?_ (p := ⟨b, off + 20, none⟩) (by simp; omega) _; exact (by repeat' (first | with_reducible assumption | (refine Blk.new' ?_ _ _; simp; done) | refine Blk.alloc ?_ _ | refine Blk.drewN ?_ _ | refine Blk.drew ?_))); have F4 : Fr (Pl.O ⟨b, tt, pre, post, off, gm, gs, fx⟩) w w4 := (by rw [hw4]; repeat' (first | (with_reducible exact Fr.refl _ _) | with_reducible assumption | (with_reducible refine Fr.drew ?_) | (with_reducible refine Fr.drewN ?_ _) | (with_reducible refine Fr.alloc ?_ _) | (with_reducible refine Fr.set ?_ ?_ _) | exact Or.inl rfl | exact Or.inr (Or.inl rfl) | exact Or.inr (Or.inr rfl) | (refine Fr.of ?_; assumption))); clear hw4
  refine (c_Turn H4 HD.out).mono ?_
  rintro e w5 ⟨rfl, hm5, hf5⟩
  have ht : ({ M with calls := M.calls.dropLast } : Mach).turn = { M with calls := M.calls.dropLast, dir := 1 } := by unfold Mach.turn; rw [show M.dir = -1 from HDD.out] <;> rfl
  rw [ht] at hm5
  obtain ⟨vm5, vs5, vc5, vi5, vo5, sv5, h5⟩ := hm5
  have KA := hf5.blk KA (by rintro (e | e | e) <;> (simp only at e; have := HM.out.gm; have := HM.out.gs; have := hB_wq.size; simp only at *; omega))
  have F5 := F4.trans hf5
  clear hf5 ht F4 H4
  go_wp2_with fail
  obtain ⟨zA, TA, FA⟩ := KA.open_
  have H5 := Lib.hid h5
  have e0 := H5.out.c0; have z0 := H5.out.frozen off; have e1 := H5.out.c1
  dsimp only at e0 z0 e1
  clear KA
  go_region_with (go_at_call 88; ((with_reducible refine (c_behind q (1) q1 (by omega) _).mono ?_); rintro e w' ⟨rfl, rfl⟩))
  all_goals (go_wp2_with fail; go_ret; exact ⟨rfl, (H5.out.setPc _).matE rfl, by repeat' (first | with_reducible (first | assumption | apply Fr.refl | apply Fr.drew | apply Fr.drewN | apply Fr.alloc | apply Fr.set) | exact .inl rfl | exact .inr (.inl rfl) | exact .inr (.inr rfl) | (apply Fr.of; assumption))⟩)

theorem leave_ok33a (h : MOn w P M vm vs vc vi vo sv) {A : Option Addr} {n : Nat} (cap : Nat) {code : Prg} (hE : Env w P A n code) (mem st : Int) (k : Nat) (hk : k < code.length) (hd : M.dir = 1 ∨ M.dir = -1) (hv : (code.getD k default).valid = true) (hop : (code.getD k default).op = 33) (s : Int) (hs : (code.getD k default).a = s) (hdir : M.dir = 1) (hcl : M.calls.length ≤ 100) (h0 : M.calls.length ≠ 0) (q : Nat) (hq : q < code.length) (hlc : M.calls.getLastD (0, false) = ((q : Int), false)) (hcall : code.getD q default = ⟨30, s, 0, 0, 0⟩) :
    Calls Tryz.prog 71 #[.agg #[.slice A n cap, .int .i64 mem, .int .i64 st], .pointer (some ⟨P.b, P.off, none⟩), .int .i64 k] w (OnM P (0, { M with calls := M.calls.dropLast, pc := (q : Int) + 1 }) w) := by
  obtain ⟨bc, oc, rfl⟩ := hE.form hk; have HM := Lib.hid h; have HE := Lib.hid hE; have HK := Lib.hid hk; have hkn : k < n := (by rw [hE.hn]; exact hk); have hn6 : n ≤ 65536 := (by rw [hE.hn]; exact hE.hl); obtain ⟨x, hx⟩ : ∃ x, code.getD k default = x := ⟨_, rfl⟩; have HX := Lib.hid hx; obtain ⟨dd, hdd⟩ : ∃ dd, M.dir = dd := ⟨_, rfl⟩; have HDD := Lib.hid hdd; have d0 : -1 ≤ dd := (by omega); have d1 : dd ≤ 1 := (by omega); have i1 : (0 : Int) ≤ (k : Int) := (by omega); have i2 : (k : Int) < (n : Int) := (by omega); have HD := Lib.hid hd; obtain ⟨b, tt, pre, post, off, gm, gs, fx⟩ := P; dsimp only at *; clear h hE hk hx hdd hd
  rw [HX.out] at hv hop; have HXV := Lib.hid hv; have HOP := Lib.hid hop; obtain rfl : dd = 1 := (by rw [← HDD.out, hdir]); clear hv hop hdir d0 d1
  have hbc : bc < w.heap.size := (HE.out.hC.blk (by omega)).1; have hblt : b < w.heap.size := HM.out.lt; have hbne : b ≠ w.heap.size := (by omega); have hB_w := Below.refl w.heap.size w; have Hm_w := Lib.hid (HM.out.next hB_w); have Ev_w := Lib.hid (HE.out.next hB_w); obtain ⟨x0, x1, x2, x3, x4⟩ := Ev_w.out.at_ HK.out HX.out; have e1 := Hm_w.out.c1; have e0 := Hm_w.out.c0; have z0 := Hm_w.out.frozen off; rw [HDD.out] at e1; dsimp only at e0 e1 z0; rw [HOP.out] at x0; have e20 := HM.out.c20; have z20 := HM.out.frozen (off + 20); dsimp only at e20 z20; obtain ⟨Ac, cc, rfl, hcc, hAc, hRc⟩ := HM.out.l.2.1
  rw [HX.out] at hs
  rw [hs] at x1
  obtain ⟨m, hm⟩ : ∃ m, M.calls.length = m + 1 := ⟨M.calls.length - 1, by omega⟩; have HM1 := Lib.hid hm; rw [HM1.out] at e20 hRc hcc hcl; obtain ⟨bs, os, rfl, hds, hcell⟩ := hRc.2 (by omega); have hbs : bs < w.heap.size := hds.1; have hcg := actCells_get M.calls m (by omega); have hlast : M.calls.getD m (0, false) = ((q : Int), false) := (by rw [List.getLastD_eq_getLast?, List.getLast?_eq_getElem?, HM1.out, Nat.add_sub_cancel, ← List.getD_eq_getElem?_getD] at hlc; exact hlc); rw [hlast] at hcg; have el0 := hcell (m * 2) _ hcg.1; have el1 := hcell (m * 2 + 1) _ hcg.2; rw [← Nat.add_assoc] at el1; have j1 : (0 : Int) ≤ (m : Int) := (by omega); have j2 : (m : Int) < (m : Int) + 1 := (by omega); have j3 : (m : Int) ≤ 100 := (by omega); have hcs' : m ≤ cc := (by omega); have HRc := Lib.hid hRc; have HAc := Lib.hid hAc; have HCc := Lib.hid hcc; have HQ := Lib.hid hq; have hqn : q < n := (by rw [HE.out.hn]; exact hq); have q1 : (0 : Int) ≤ (q : Int) := (by omega); have q2 : (q : Int) < (n : Int) := (by omega); obtain ⟨y, hy⟩ : ∃ y, code.getD q default = y := ⟨_, rfl⟩; have HY := Lib.hid hy; rw [hy] at hcall; obtain ⟨y0, y1, y2, y3, y4⟩ := HE.out.at_ HQ.out HY.out; clear hm hcell hcg hlast hlc hRc hAc hcc hq hy hds
  have hneq : (!decide ((⟨y.op, y.a, y.b, y.c, y.d⟩ : Ins) = ⟨30, s, 0, 0, 0⟩)) = false := by simp only [Bool.not_eq_false', decide_eq_true_iff]; exact hcall
  have hnq := fun W => neqIns W y.op y.a y.b y.c y.d 30 s 0 0 0 hneq
  clear hneq hcall
  go_enter Tryz.func71, Tryz.ntmps71
  go_wp2_with fail
  go_quiet (fail)
  rename_i nq
  obtain ⟨wq, hwq⟩ : ∃ wq : World, wq = ((w.alloc (.cells #[.slice (some ⟨bc, oc, none⟩) n cap, .int .i64 mem, .int .i64 st] 82)).alloc (.cells #[.int .u8 (33), .int .i64 (s), .int .i64 (x.b), .int .i64 (x.c), .int .i64 (x.d)] 102)).drewN nq := ⟨_, rfl⟩
  rw [← hwq]
  have hB_wq : Below w.heap.size w wq := by rw [hwq]; exact (by repeat' (first | (with_reducible assumption) | (with_reducible exact Below.refl _ _) | (with_reducible refine Below.alloc ?_ ?_ _) | (with_reducible refine Bk.drewN_ ?_ _) | (with_reducible refine Below.drew ?_) | (with_reducible refine Below.setCell ?_ ?_ _) | go_size))
  have KI : Blk wq w.heap.size 82 #[.slice (some ⟨bc, oc, none⟩) n cap, .int .i64 mem, .int .i64 st] := by rw [hwq]; exact (by repeat' (first | assumption | exact Blk.new' (by simp) _ _ | apply Blk.alloc | apply Blk.drew))
  have Kx : Blk wq (w.heap.size + 1) 102 #[.int .u8 (33), .int .i64 (s), .int .i64 (x.b), .int .i64 (x.c), .int .i64 (x.d)] := by rw [hwq]; exact (by repeat' (first | assumption | exact Blk.new' (by simp) _ _ | apply Blk.alloc | apply Blk.drew))
  have f0 := (hB_wq.cell (p := ⟨bs, os + m * 2, none⟩) hbs).trans el0
  have f1 := (hB_wq.cell (p := ⟨bs, os + m * 2 + 1, none⟩) hbs).trans el1
  clear hwq e20 z20 e1 e0 z0 el0 el1 x0 x1 x2 x3 x4 y0 y1 y2 y3 y4
  have HQM := Lib.hid (HM.out.next hB_wq)
  have HQE := Lib.hid (HE.out.next hB_wq)
  obtain ⟨y0, y1, y2, y3, y4⟩ := HQE.out.at_ HQ.out HY.out
  have e20 := HQM.out.c20; have z20 := HQM.out.frozen (off + 20); have e1 := HQM.out.c1; have e0 := HQM.out.c0; have z0 := HQM.out.frozen off
  rw [HDD.out] at e1
  rw [HM1.out] at e20
  obtain ⟨zI, TI, FI⟩ := KI.open_
  obtain ⟨zx, Tx, Fx⟩ := Kx.open_
  have HKI := Lib.hid KI
  have hblt2 : b < wq.heap.size := by omega
  have hbcq : bc < wq.heap.size := by omega
  have hbsq : bs < wq.heap.size := by omega
  dsimp only at e20 z20 e1 e0 z0
  clear KI Kx
  go_wp2_with fail
  go_quiet (fail)
  have hSl := Sl.popA HM1.out HCc.out HAc.out HRc.out
  have HSl := Lib.hid hSl
  clear hSl
  go_wp2_with fail
  clear e20 z20 e1 e0 z0
  refine wp_name ?_
  intro w4 hw4; have H4 : MOn w4 ⟨b, tt, pre, post, off, gm, gs, fx⟩ { M with calls := M.calls.dropLast } vm vs (.slice (some ⟨bs, os, none⟩) m cc) vi vo sv := (by rw [hw4]; exact (HQM.out.next (by repeat' (first | (with_reducible assumption) | (with_reducible exact Below.refl _ _) | (with_reducible refine Below.alloc ?_ ?_ _) | (with_reducible refine Bk.drewN_ ?_ _) | (with_reducible refine Below.drew ?_) | (with_reducible refine Below.setCell ?_ ?_ _) | go_size))).setCalls _ _ (Sl.up HSl.out (by repeat' (first | (with_reducible assumption) | (with_reducible exact Below.refl _ _) | (with_reducible refine Below.alloc ?_ ?_ _) | (with_reducible refine Bk.drewN_ ?_ _) | (with_reducible refine Below.drew ?_) | (with_reducible refine Below.setCell ?_ ?_ _) | go_size)))); have KA : Blk w4 wq.heap.size 118 #[.int .i64 q, .bool false] := (by rw [hw4]; refine Blk.far ?_ (p := ⟨b, off + 20, none⟩) (by simp; omega) _; exact (by repeat' (first | with_reducible assumption | (refine Blk.new' ?_ _ _; simp; done) | refine Blk.alloc ?_ _ | refine Blk.drewN ?_ _ | refine Blk.drew ?_))); have F4 : Fr (Pl.O ⟨b, tt, pre, post, off, gm, gs, fx⟩) w w4 := (by rw [hw4]; repeat' (first | (with_reducible exact Fr.refl _ _) | with_reducible assumption | (with_reducible refine Fr.drew ?_) | (with_reducible refine Fr.drewN ?_ _) | (with_reducible refine Fr.alloc ?_ _) | (with_reducible refine Fr.set ?_ ?_ _) | exact Or.inl rfl | exact Or.inr (Or.inl rfl) | exact Or.inr (Or.inr rfl) | (refine Fr.of ?_; assumption))); clear hw4
  obtain ⟨zA, TA, FA⟩ := KA.open_
  have H5 := Lib.hid H4
  have e0 := H5.out.c0; have z0 := H5.out.frozen off; have e1 := H5.out.c1
  dsimp only at e0 z0 e1
  rw [HDD.out] at e1
  clear KA
  go_region_with (go_at_call 88; ((with_reducible refine (c_behind q (1) q1 (by omega) _).mono ?_); rintro e w' ⟨rfl, rfl⟩))
  all_goals (go_wp2_with fail; go_ret; exact ⟨rfl, (H5.out.setPc _).matE rfl, by repeat' (first | with_reducible (first | assumption | apply Fr.refl | apply Fr.drew | apply Fr.drewN | apply Fr.alloc | apply Fr.set) | exact .inl rfl | exact .inr (.inl rfl) | exact .inr (.inr rfl) | (apply Fr.of; assumption))⟩)

theorem leave_ok33b (h : MOn w P M vm vs vc vi vo sv) {A : Option Addr} {n : Nat} (cap : Nat) {code : Prg} (hE : Env w P A n code) (mem st : Int) (k : Nat) (hk : k < code.length) (hd : M.dir = 1 ∨ M.dir = -1) (hv : (code.getD k default).valid = true) (hop : (code.getD k default).op = 33) (s : Int) (hs : (code.getD k default).a = s) (hdir : M.dir = 1) (hcl : M.calls.length ≤ 100) (h0 : M.calls.length ≠ 0) (q : Nat) (hq : q < code.length) (hlc : M.calls.getLastD (0, false) = ((q : Int), true)) (hcall : code.getD q default = ⟨31, s, 0, 0, 0⟩) :
    Calls Tryz.prog 71 #[.agg #[.slice A n cap, .int .i64 mem, .int .i64 st], .pointer (some ⟨P.b, P.off, none⟩), .int .i64 k] w (OnM P (0, { M with calls := M.calls.dropLast, dir := -1, pc := (q : Int) }) w) := by
  obtain ⟨bc, oc, rfl⟩ := hE.form hk; have HM := Lib.hid h; have HE := Lib.hid hE; have HK := Lib.hid hk; have hkn : k < n := (by rw [hE.hn]; exact hk); have hn6 : n ≤ 65536 := (by rw [hE.hn]; exact hE.hl); obtain ⟨x, hx⟩ : ∃ x, code.getD k default = x := ⟨_, rfl⟩; have HX := Lib.hid hx; obtain ⟨dd, hdd⟩ : ∃ dd, M.dir = dd := ⟨_, rfl⟩; have HDD := Lib.hid hdd; have d0 : -1 ≤ dd := (by omega); have d1 : dd ≤ 1 := (by omega); have i1 : (0 : Int) ≤ (k : Int) := (by omega); have i2 : (k : Int) < (n : Int) := (by omega); have HD := Lib.hid hd; obtain ⟨b, tt, pre, post, off, gm, gs, fx⟩ := P; dsimp only at *; clear h hE hk hx hdd hd
  rw [HX.out] at hv hop; have HXV := Lib.hid hv; have HOP := Lib.hid hop; obtain rfl : dd = 1 := (by rw [← HDD.out, hdir]); clear hv hop hdir d0 d1
  have hbc : bc < w.heap.size := (HE.out.hC.blk (by omega)).1; have hblt : b < w.heap.size := HM.out.lt; have hbne : b ≠ w.heap.size := (by omega); have hB_w := Below.refl w.heap.size w; have Hm_w := Lib.hid (HM.out.next hB_w); have Ev_w := Lib.hid (HE.out.next hB_w); obtain ⟨x0, x1, x2, x3, x4⟩ := Ev_w.out.at_ HK.out HX.out; have e1 := Hm_w.out.c1; have e0 := Hm_w.out.c0; have z0 := Hm_w.out.frozen off; rw [HDD.out] at e1; dsimp only at e0 e1 z0; rw [HOP.out] at x0; have e20 := HM.out.c20; have z20 := HM.out.frozen (off + 20); dsimp only at e20 z20; obtain ⟨Ac, cc, rfl, hcc, hAc, hRc⟩ := HM.out.l.2.1
  rw [HX.out] at hs
  rw [hs] at x1
  obtain ⟨m, hm⟩ : ∃ m, M.calls.length = m + 1 := ⟨M.calls.length - 1, by omega⟩; have HM1 := Lib.hid hm; rw [HM1.out] at e20 hRc hcc hcl; obtain ⟨bs, os, rfl, hds, hcell⟩ := hRc.2 (by omega); have hbs : bs < w.heap.size := hds.1; have hcg := actCells_get M.calls m (by omega); have hlast : M.calls.getD m (0, false) = ((q : Int), true) := (by rw [List.getLastD_eq_getLast?, List.getLast?_eq_getElem?, HM1.out, Nat.add_sub_cancel, ← List.getD_eq_getElem?_getD] at hlc; exact hlc); rw [hlast] at hcg; have el0 := hcell (m * 2) _ hcg.1; have el1 := hcell (m * 2 + 1) _ hcg.2; rw [← Nat.add_assoc] at el1; have j1 : (0 : Int) ≤ (m : Int) := (by omega); have j2 : (m : Int) < (m : Int) + 1 := (by omega); have j3 : (m : Int) ≤ 100 := (by omega); have hcs' : m ≤ cc := (by omega); have HRc := Lib.hid hRc; have HAc := Lib.hid hAc; have HCc := Lib.hid hcc; have HQ := Lib.hid hq; have hqn : q < n := (by rw [HE.out.hn]; exact hq); have q1 : (0 : Int) ≤ (q : Int) := (by omega); have q2 : (q : Int) < (n : Int) := (by omega); obtain ⟨y, hy⟩ : ∃ y, code.getD q default = y := ⟨_, rfl⟩; have HY := Lib.hid hy; rw [hy] at hcall; obtain ⟨y0, y1, y2, y3, y4⟩ := HE.out.at_ HQ.out HY.out; clear hm hcell hcg hlast hlc hRc hAc hcc hq hy hds
  have hneq : (!decide ((⟨y.op, y.a, y.b, y.c, y.d⟩ : Ins) = ⟨31, s, 0, 0, 0⟩)) = false := by simp only [Bool.not_eq_false', decide_eq_true_iff]; exact hcall
  have hnq := fun W => neqIns W y.op y.a y.b y.c y.d 31 s 0 0 0 hneq
  clear hneq hcall
  go_enter Tryz.func71, Tryz.ntmps71
  go_wp2_with fail
  go_quiet (fail)
  rename_i nq
  obtain ⟨wq, hwq⟩ : ∃ wq : World, wq = ((w.alloc (.cells #[.slice (some ⟨bc, oc, none⟩) n cap, .int .i64 mem, .int .i64 st] 82)).alloc (.cells #[.int .u8 (33), .int .i64 (s), .int .i64 (x.b), .int .i64 (x.c), .int .i64 (x.d)] 102)).drewN nq := ⟨_, rfl⟩
  rw [← hwq]
  have hB_wq : Below w.heap.size w wq := by rw [hwq]; exact (by repeat' (first | (with_reducible assumption) | (with_reducible exact Below.refl _ _) | (with_reducible refine Below.alloc ?_ ?_ _) | (with_reducible refine Bk.drewN_ ?_ _) | (with_reducible refine Below.drew ?_) | (with_reducible refine Below.setCell ?_ ?_ _) | go_size))
  have KI : Blk wq w.heap.size 82 #[.slice (some ⟨bc, oc, none⟩) n cap, .int .i64 mem, .int .i64 st] := by rw [hwq]; exact (by repeat' (first | assumption | exact Blk.new' (by simp) _ _ | apply Blk.alloc | apply Blk.drew))
  have Kx : Blk wq (w.heap.size + 1) 102 #[.int .u8 (33), .int .i64 (s), .int .i64 (x.b), .int .i64 (x.c), .int .i64 (x.d)] := by rw [hwq]; exact (by repeat' (first | assumption | exact Blk.new' (by simp) _ _ | apply Blk.alloc | apply Blk.drew))
  have f0 := (hB_wq.cell (p := ⟨bs, os + m * 2, none⟩) hbs).trans el0
  have f1 := (hB_wq.cell (p := ⟨bs, os + m * 2 + 1, none⟩) hbs).trans el1
  clear hwq e20 z20 e1 e0 z0 el0 el1 x0 x1 x2 x3 x4 y0 y1 y2 y3 y4
  have HQM := Lib.hid (HM.out.next hB_wq)
  have HQE := Lib.hid (HE.out.next hB_wq)
  obtain ⟨y0, y1, y2, y3, y4⟩ := HQE.out.at_ HQ.out HY.out
  have e20 := HQM.out.c20; have z20 := HQM.out.frozen (off + 20); have e1 := HQM.out.c1; have e0 := HQM.out.c0; have z0 := HQM.out.frozen off
  rw [HDD.out] at e1
  rw [HM1.out] at e20
  obtain ⟨zI, TI, FI⟩ := KI.open_
  obtain ⟨zx, Tx, Fx⟩ := Kx.open_
  have HKI := Lib.hid KI
  have hblt2 : b < wq.heap.size := by omega
  have hbcq : bc < wq.heap.size := by omega
  have hbsq : bs < wq.heap.size := by omega
  dsimp only at e20 z20 e1 e0 z0
  clear KI Kx
  go_wp2_with fail
  go_quiet (fail)
  have hSl := Sl.popA HM1.out HCc.out HAc.out HRc.out
  have HSl := Lib.hid hSl
  clear hSl
  go_wp2_with fail
  clear e20 z20 e1 e0 z0
  refine calls_name ?_
  intro w4 hw4; have H4 : MOn w4 ⟨b, tt, pre, post, off, gm, gs, fx⟩ { M with calls := M.calls.dropLast } vm vs (.slice (some ⟨bs, os, none⟩) m cc) vi vo sv := (by rw [hw4]; exact (HQM.out.next (by repeat' (first | (with_reducible assumption) | (with_reducible exact Below.refl _ _) | (with_reducible refine Below.alloc ?_ ?_ _) | (with_reducible refine Bk.drewN_ ?_ _) | (with_reducible refine Below.drew ?_) | (with_reducible refine Below.setCell ?_ ?_ _) | go_size))).setCalls _ _ (Sl.up HSl.out (by repeat' (first | (with_reducible assumption) | (with_reducible exact Below.refl _ _) | (with_reducible refine Below.alloc ?_ ?_ _) | (with_reducible refine Bk.drewN_ ?_ _) | (with_reducible refine Below.drew ?_) | (with_reducible refine Below.setCell ?_ ?_ _) | go_size)))); have KA : Blk w4 wq.heap.size 118 #[.int .i64 q, .bool true] := (by rw [hw4]; refine Blk.far ?_ (p := ⟨b, off + 20, none⟩) (by simp; omega) _; exact (by repeat' (first | with_reducible assumption | (refine Blk.new' ?_ _ _; simp; done) | refine Blk.alloc ?_ _ | refine Blk.drewN ?_ _ | refine Blk.drew ?_))); have F4 : Fr (Pl.O ⟨b, tt, pre, post, off, gm, gs, fx⟩) w w4 := (by rw [hw4]; repeat' (first | (with_reducible exact Fr.refl _ _) | with_reducible assumption | (with_reducible refine Fr.drew ?_) | (with_reducible refine Fr.drewN ?_ _) | (with_reducible refine Fr.alloc ?_ _) | (with_reducible refine Fr.set ?_ ?_ _) | exact Or.inl rfl | exact Or.inr (Or.inl rfl) | exact Or.inr (Or.inr rfl) | (refine Fr.of ?_; assumption))); clear hw4
  refine (c_Turn H4 HD.out).mono ?_
  rintro e w5 ⟨rfl, hm5, hf5⟩
  have ht : ({ M with calls := M.calls.dropLast } : Mach).turn = { M with calls := M.calls.dropLast, dir := -1 } := by unfold Mach.turn; rw [show M.dir = 1 from HDD.out] <;> rfl
  rw [ht] at hm5
  obtain ⟨vm5, vs5, vc5, vi5, vo5, sv5, h5⟩ := hm5
  have KA := hf5.blk KA (by rintro (e | e | e) <;> (simp only at e; have := HM.out.gm; have := HM.out.gs; have := hB_wq.size; simp only at *; omega))
  have F5 := F4.trans hf5
  clear hf5 ht F4 H4
  go_wp2_with fail
  obtain ⟨zA, TA, FA⟩ := KA.open_
  have H5 := Lib.hid h5
  have e0 := H5.out.c0; have z0 := H5.out.frozen off; have e1 := H5.out.c1
  dsimp only at e0 z0 e1
  clear KA
  go_region_with (go_at_call 88; ((with_reducible refine (c_behind q (-1) q1 (by omega) _).mono ?_); rintro e w' ⟨rfl, rfl⟩))
  all_goals (go_wp2_with fail; go_ret; exact ⟨rfl, (H5.out.setPc _).matE rfl, by repeat' (first | with_reducible (first | assumption | apply Fr.refl | apply Fr.drew | apply Fr.drewN | apply Fr.alloc | apply Fr.set) | exact .inl rfl | exact .inr (.inl rfl) | exact .inr (.inr rfl) | (apply Fr.of; assumption))⟩)

end Go.Proofs.YtbijhlgdilkopaaGreatDoor
