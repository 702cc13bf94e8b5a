/- Several texts in one: CpuV CpuW. -/
import Derived.Test.YtmccbgnonmgbeaaDoorCpU
set_option linter.unusedVariables false
set_option linter.unusedSimpArgs false
/- The walks of package cpu: fits, where it holds. -/
set_option linter.unusedVariables false
namespace Go.Proofs.YtmccbgnonmgbeaaDoor
open Go.RowKit Bk

set_option maxRecDepth 100000 in
set_option maxHeartbeats 8000000 in
theorem fits_b {w : World} {P : Pl} {M : Mach} {vm vs vc vi vo : Value} {sv : List Value} (h : MOn w P M vm vs vc vi vo sv) (A : Option Addr) (n cap : Nat) (im : Img) (hn : n = im.code.length) (hf : Fit im M) (hB : MBd M) (hdir : M.dir = -1) (c : Nat) (hc0 : 0 < c) (hcp : ∀ A n cap, vs = .slice A n cap → cap = c + 1) :
    Calls Tryd.prog 37 #[.agg #[.slice A n cap, .int .i64 im.mem, .int .i64 im.stacks], .pointer (some ⟨P.b, P.off, none⟩)] w fun e w' => e = .returned (.bool true) ∧ Below w.heap.size w w' := by
  have HM := Lib.hid h
  have HF := Lib.hid hf
  have e0 := h.c0; have e1 := h.c1; rw [hdir] at e1; clear hdir; have e18 := h.c18; have e19 := h.c19
  obtain ⟨Am, cm, hvm, _⟩ := h.m
  rw [intCells_length] at hvm
  obtain ⟨capS, hvs, hcs, _⟩ := h.s.form (by rw [h.l.1.1]; have := hf.ok.s1; omega)
  rw [h.l.1.1] at hvs hcs
  have hcp := hcp _ _ _ hvs
  have hm6 := hB.sl
  have hcl6 := hB.cl
  rw [hvm] at e18
  rw [hvs] at e19
  have p0 := hf.p0; have p1 := hf.p1; rw [← hn] at p1
  have hml := hf.ml; have hsn := hf.sn
  obtain ⟨m, hm⟩ : ∃ m, M.s.length = m + 1 := ⟨M.s.length - 1, by have := hf.ok.s1; omega⟩
  rw [hm] at e19 hsn hcs hm6
  rw [← hml]
  obtain ⟨ss, hss⟩ : ∃ ss, im.stacks = ss := ⟨_, rfl⟩
  rw [hss] at hsn ⊢
  have ht4 : ((m : Int) + 1 != ss) = false := by simp; omega
  have HMM := Lib.hid hm
  have hblt := h.lt
  have HN := Lib.hid hn
  obtain ⟨pc, hpc⟩ : ∃ pc, M.pc = pc := ⟨_, rfl⟩
  rw [hpc] at e0 p0 p1
  obtain ⟨b, tt, pre, post, off, gm, gs, fx⟩ := P
  dsimp only at *
  have hbne : b ≠ w.heap.size := by omega
  have t1 : decide (pc < 0) = false := by simp; omega
  have t2 : decide ((n : Int) < pc) = false := by simp; omega
  have t3 : decide ((m : Int) + 1 < 1) = false := by simp; omega
  have hcs' : m + 1 ≤ capS := hcs
  have hs1 : ss = (m : Int) + 1 := by omega
  clear hB h hf hvm hvs hml hsn hm hn hpc hcs hss
  have HSS := Lib.hid hs1
  clear hs1
  obtain rfl : capS = c + 1 := hcp
  have hc1 : m ≤ c := by omega
  clear hcp
  obtain ⟨Ac, cc, hvc, hcc, hAc, hRc⟩ := HM.out.l.2.1
  obtain ⟨Ai, ci, hvi, _⟩ := HM.out.l.2.2.1
  obtain ⟨Ao, co, hvo, _⟩ := HM.out.l.2.2.2
  subst hvc hvi hvo
  have HRc := Lib.hid hRc
  clear hcc hAc hRc
  go_enter Tryd.func37, Tryd.ntmps37
  go_wp2_with fail
  go_quiet (fail)
  go_wp2_with fail
  go_quiet (fail)
  go_wp2_with fail
  refine wp_name ?_
  intro w2 hw2
  have hB2 : Below w.heap.size w w2 := by rw [hw2]; exact (by repeat' (first | (with_reducible assumption) | (with_reducible exact Below.refl _ _) | (with_reducible refine Below.alloc ?_ ?_ _) | (with_reducible refine Bk.drewN_ ?_ _) | (with_reducible refine Below.drew ?_) | (with_reducible refine Below.setCell ?_ ?_ _) | go_size))
  have KI : Blk w2 w.heap.size 24 #[.slice A n cap, .int .i64 M.m.length, .int .i64 ss] := by rw [hw2]; exact (by repeat' (first | with_reducible assumption | (refine Blk.new' ?_ _ _; simp; done) | refine Blk.alloc ?_ _ | refine Blk.drewN ?_ _ | refine Blk.drew ?_))
  clear hw2 e0 e1 e18 e19
  go_loopw [70] (fun v wr => ∃ j : Nat, j ≤ m ∧ v = .int .i64 j ∧ w2 = wr) (fun v _ => m - (intOf v).toNat)
  case atStart => exact ⟨0, Nat.zero_le _, rfl, rfl⟩
  case round =>
    obtain ⟨j, hj, rfl, rfl⟩ := hrel
    by_cases hlt : j < m
    · obtain ⟨n1, cap1, ev, hn1, A1, c1, ec, _⟩ := (HM.out.next hB2).sv (j + 1) (by have := HMM.out; omega)
      have hle : (M.stk ((j + 1 : Nat) : Int)).length ≤ 1000 := HF.out.ok.sl (j + 1) (by omega)
      dsimp only at ec
      generalize (M.stk ((j + 1 : Nat) : Int)).length = lk at *
      have hle' : decide (1000 < (lk : Int)) = false := by simp; omega
      rw [Nat.add_comm j 1] at ec
      have j0 : (0 : Int) ≤ (j : Int) := by omega
      have j1 : (j : Int) < (m : Int) := by omega
      clear hle ev hn1
      go_wp2_with fail
      exact ⟨⟨j + 1, by omega, by go_num, trivial⟩, by simp [intOf]; omega⟩
    · obtain rfl : j = m := by omega
      have hm2 := HM.out.next hB2
      have e20 := hm2.c20
      dsimp only at e20
      have KIh := Lib.hid KI
      clear KI hm2 hlt hj
      go_wp2_with fail
      go_loopw [83] (fun v wr => ∃ j : Nat, j ≤ M.calls.length ∧ v = .int .i64 j ∧ Below w2.heap.size w2 wr) (fun v _ => M.calls.length - (intOf v).toNat)
      case atStart => exact ⟨0, Nat.zero_le _, rfl, Below.refl _ _⟩
      case round =>
        obtain ⟨j, hj, rfl, hBr⟩ := hrel
        have hB : Below w.heap.size w wr := hB2.next hBr
        have KR := KIh.out.next hBr
        clear e20
        by_cases hlt : j < M.calls.length
        · have hRr := HRc.out
          obtain ⟨bs, os, hAc, hds, hcell⟩ := hRr.2 (by omega)
          obtain ⟨g0, g1⟩ := actCells_get M.calls j hlt
          have hbs : bs < w.heap.size := hds.1
          have c0 := (hB.cell (p := ⟨bs, os + j * 2, none⟩) hbs).trans (hcell _ _ g0)
          have c1 := (hB.cell (p := ⟨bs, os + (j * 2 + 1), none⟩) hbs).trans (hcell _ _ g1)
          rw [← Nat.add_assoc] at c1
          obtain ⟨q0, q1⟩ := HF.out.cs (M.calls.getD j (0, false)) (by rw [List.getD_eq_getElem?_getD]; simp [hlt])
          rw [← HN.out] at q1
          generalize M.calls.getD j (0, false) = ca at *
          obtain ⟨site, tu⟩ := ca
          dsimp only at c0 c1 q0 q1
          have t4 : decide (site < 0) = false := by simp; omega
          have t5 : decide ((n : Int) ≤ site) = false := by simp; omega
          have j0 : (0 : Int) ≤ (j : Int) := by omega
          have j1 : (j : Int) < (M.calls.length : Int) := by omega
          obtain ⟨zI, TI, FI⟩ := KR.open_
          have hbr : bs < wr.heap.size := by have := hB.size; omega
          have HBr := Lib.hid hBr
          subst hAc
          clear hRr hcell g0 g1 hds KR hBr q0 q1 hB
          go_wp2_with fail
          exact ⟨⟨j + 1, by omega, by go_num, by have h1 := HBr.out; have h2 := h1.size; exact (by repeat' (first | (with_reducible assumption) | (with_reducible exact Below.refl _ _) | (with_reducible refine Below.alloc ?_ ?_ _) | (with_reducible refine Bk.drewN_ ?_ _) | (with_reducible refine Below.drew ?_) | (with_reducible refine Below.setCell ?_ ?_ _) | go_size))⟩, by simp [intOf]; omega⟩
        · obtain rfl : j = M.calls.length := by omega
          have hm3 := HM.out.next hB
          have e20 := hm3.c20; have e21 := hm3.c21; have e22 := hm3.c22; have e23 := hm3.c23; have e24 := hm3.c24
          dsimp only at e20 e21 e22 e23 e24
          have q1 : decide ((M.calls.length : Int) ≤ 100) = true := by have := HF.out.cl; simp; omega
          have q2 : decide ((M.inp.length : Int) ≤ 4096) = true := by have := HF.out.ok.inl; simp; omega
          have q3 : decide ((M.out.length : Int) ≤ 4096) = true := by have := HF.out.ok.outl; simp; omega
          have q4 : decide (0 ≤ M.fp) = true := by have := HF.out.ok.fp0; simp; omega
          have q5 : decide (M.fp ≤ (M.m.length : Int)) = true := by have := HF.out.ok.fp1; simp; omega
          have q6 : decide (0 ≤ M.sb) = true := by have := HF.out.ok.sb0; simp; omega
          have q7 : decide (M.sb ≤ ss) = true := by have := HF.out.ok.sb1; have := HMM.out; have := HSS.out; simp; omega
          obtain ⟨zI, TI, FI⟩ := KR.open_
          have HBr := Lib.hid hBr
          clear KR hBr hm3 hlt hj
          go_wp2_with fail
          go_quiet (fail)
          go_wp2_with fail
          go_ret
          exact ⟨rfl, by repeat' (first | (with_reducible assumption) | (with_reducible exact Below.refl _ _) | (with_reducible refine Below.alloc ?_ ?_ _) | (with_reducible refine Bk.drewN_ ?_ _) | (with_reducible refine Below.drew ?_) | (with_reducible refine Below.setCell ?_ ?_ _) | go_size)⟩

set_option maxRecDepth 100000 in
set_option maxHeartbeats 8000000 in
theorem fits_c {w : World} {P : Pl} {M : Mach} {vm vs vc vi vo : Value} {sv : List Value} (h : MOn w P M vm vs vc vi vo sv) (A : Option Addr) (n cap : Nat) (im : Img) (hn : n = im.code.length) (hf : Fit im M) (hB : MBd M) (hdir : M.dir = 1) (hcp : ∀ A n cap, vs = .slice A n cap → cap = 1) :
    Calls Tryd.prog 37 #[.agg #[.slice A n cap, .int .i64 im.mem, .int .i64 im.stacks], .pointer (some ⟨P.b, P.off, none⟩)] w fun e w' => e = .returned (.bool true) ∧ Below w.heap.size w w' := by
  have HM := Lib.hid h
  have HF := Lib.hid hf
  have e0 := h.c0; have e1 := h.c1; rw [hdir] at e1; clear hdir; have e18 := h.c18; have e19 := h.c19
  obtain ⟨Am, cm, hvm, _⟩ := h.m
  rw [intCells_length] at hvm
  obtain ⟨capS, hvs, hcs, _⟩ := h.s.form (by rw [h.l.1.1]; have := hf.ok.s1; omega)
  rw [h.l.1.1] at hvs hcs
  have hcp := hcp _ _ _ hvs
  have hm6 := hB.sl
  have hcl6 := hB.cl
  rw [hvm] at e18
  rw [hvs] at e19
  have p0 := hf.p0; have p1 := hf.p1; rw [← hn] at p1
  have hml := hf.ml; have hsn := hf.sn
  obtain ⟨m, hm⟩ : ∃ m, M.s.length = m + 1 := ⟨M.s.length - 1, by have := hf.ok.s1; omega⟩
  rw [hm] at e19 hsn hcs hm6
  rw [← hml]
  obtain ⟨ss, hss⟩ : ∃ ss, im.stacks = ss := ⟨_, rfl⟩
  rw [hss] at hsn ⊢
  have ht4 : ((m : Int) + 1 != ss) = false := by simp; omega
  have HMM := Lib.hid hm
  have hblt := h.lt
  have HN := Lib.hid hn
  obtain ⟨pc, hpc⟩ : ∃ pc, M.pc = pc := ⟨_, rfl⟩
  rw [hpc] at e0 p0 p1
  obtain ⟨b, tt, pre, post, off, gm, gs, fx⟩ := P
  dsimp only at *
  have hbne : b ≠ w.heap.size := by omega
  have t1 : decide (pc < 0) = false := by simp; omega
  have t2 : decide ((n : Int) < pc) = false := by simp; omega
  have t3 : decide ((m : Int) + 1 < 1) = false := by simp; omega
  have hcs' : m + 1 ≤ capS := hcs
  have hs1 : ss = (m : Int) + 1 := by omega
  clear hB h hf hvm hvs hml hsn hm hn hpc hcs hss
  have HSS := Lib.hid hs1
  clear hs1
  obtain rfl : capS = 1 := hcp
  obtain rfl : m = 0 := by omega
  obtain rfl : ss = 1 := by have := HSS.out; omega
  clear ht4 t3 hcs' hm6
  simp only [Nat.zero_add] at e19
  obtain ⟨Ac, cc, hvc, hcc, hAc, hRc⟩ := HM.out.l.2.1
  obtain ⟨Ai, ci, hvi, _⟩ := HM.out.l.2.2.1
  obtain ⟨Ao, co, hvo, _⟩ := HM.out.l.2.2.2
  subst hvc hvi hvo
  have HRc := Lib.hid hRc
  clear hcc hAc hRc
  go_enter Tryd.func37, Tryd.ntmps37
  go_wp2_with fail
  go_quiet (fail)
  go_wp2_with fail
  go_quiet (fail)
  go_wp2_with fail
  refine wp_name ?_
  intro w2 hw2
  have hB2 : Below w.heap.size w w2 := by rw [hw2]; exact (by repeat' (first | (with_reducible assumption) | (with_reducible exact Below.refl _ _) | (with_reducible refine Below.alloc ?_ ?_ _) | (with_reducible refine Bk.drewN_ ?_ _) | (with_reducible refine Below.drew ?_) | (with_reducible refine Below.setCell ?_ ?_ _) | go_size))
  have KI : Blk w2 w.heap.size 24 #[.slice A n cap, .int .i64 M.m.length, .int .i64 1] := by rw [hw2]; exact (by repeat' (first | with_reducible assumption | (refine Blk.new' ?_ _ _; simp; done) | refine Blk.alloc ?_ _ | refine Blk.drewN ?_ _ | refine Blk.drew ?_))
  clear hw2 e0 e1 e18 e19
  go_loopw [70] (fun v wr => ∃ j : Nat, j ≤ 0 ∧ v = .int .i64 j ∧ w2 = wr) (fun v _ => 0 - (intOf v).toNat)
  case atStart => exact ⟨0, Nat.zero_le _, rfl, rfl⟩
  case round =>
    obtain ⟨j, hj, rfl, rfl⟩ := hrel
    by_cases hlt : j < 0
    · omega
    · obtain rfl : j = 0 := by omega
      have hm2 := HM.out.next hB2
      have e20 := hm2.c20
      dsimp only at e20
      have KIh := Lib.hid KI
      clear KI hm2 hlt hj
      go_wp2_with fail
      go_loopw [83] (fun v wr => ∃ j : Nat, j ≤ M.calls.length ∧ v = .int .i64 j ∧ Below w2.heap.size w2 wr) (fun v _ => M.calls.length - (intOf v).toNat)
      case atStart => exact ⟨0, Nat.zero_le _, rfl, Below.refl _ _⟩
      case round =>
        obtain ⟨j, hj, rfl, hBr⟩ := hrel
        have hB : Below w.heap.size w wr := hB2.next hBr
        have KR := KIh.out.next hBr
        clear e20
        by_cases hlt : j < M.calls.length
        · have hRr := HRc.out
          obtain ⟨bs, os, hAc, hds, hcell⟩ := hRr.2 (by omega)
          obtain ⟨g0, g1⟩ := actCells_get M.calls j hlt
          have hbs : bs < w.heap.size := hds.1
          have c0 := (hB.cell (p := ⟨bs, os + j * 2, none⟩) hbs).trans (hcell _ _ g0)
          have c1 := (hB.cell (p := ⟨bs, os + (j * 2 + 1), none⟩) hbs).trans (hcell _ _ g1)
          rw [← Nat.add_assoc] at c1
          obtain ⟨q0, q1⟩ := HF.out.cs (M.calls.getD j (0, false)) (by rw [List.getD_eq_getElem?_getD]; simp [hlt])
          rw [← HN.out] at q1
          generalize M.calls.getD j (0, false) = ca at *
          obtain ⟨site, tu⟩ := ca
          dsimp only at c0 c1 q0 q1
          have t4 : decide (site < 0) = false := by simp; omega
          have t5 : decide ((n : Int) ≤ site) = false := by simp; omega
          have j0 : (0 : Int) ≤ (j : Int) := by omega
          have j1 : (j : Int) < (M.calls.length : Int) := by omega
          obtain ⟨zI, TI, FI⟩ := KR.open_
          have hbr : bs < wr.heap.size := by have := hB.size; omega
          have HBr := Lib.hid hBr
          subst hAc
          clear hRr hcell g0 g1 hds KR hBr q0 q1 hB
          go_wp2_with fail
          exact ⟨⟨j + 1, by omega, by go_num, by have h1 := HBr.out; have h2 := h1.size; exact (by repeat' (first | (with_reducible assumption) | (with_reducible exact Below.refl _ _) | (with_reducible refine Below.alloc ?_ ?_ _) | (with_reducible refine Bk.drewN_ ?_ _) | (with_reducible refine Below.drew ?_) | (with_reducible refine Below.setCell ?_ ?_ _) | go_size))⟩, by simp [intOf]; omega⟩
        · obtain rfl : j = M.calls.length := by omega
          have hm3 := HM.out.next hB
          have e20 := hm3.c20; have e21 := hm3.c21; have e22 := hm3.c22; have e23 := hm3.c23; have e24 := hm3.c24
          dsimp only at e20 e21 e22 e23 e24
          have q1 : decide ((M.calls.length : Int) ≤ 100) = true := by have := HF.out.cl; simp; omega
          have q2 : decide ((M.inp.length : Int) ≤ 4096) = true := by have := HF.out.ok.inl; simp; omega
          have q3 : decide ((M.out.length : Int) ≤ 4096) = true := by have := HF.out.ok.outl; simp; omega
          have q4 : decide (0 ≤ M.fp) = true := by have := HF.out.ok.fp0; simp; omega
          have q5 : decide (M.fp ≤ (M.m.length : Int)) = true := by have := HF.out.ok.fp1; simp; omega
          have q6 : decide (0 ≤ M.sb) = true := by have := HF.out.ok.sb0; simp; omega
          have q7 : decide (M.sb ≤ 1) = true := by have := HF.out.ok.sb1; have := HMM.out; have := HSS.out; simp; omega
          obtain ⟨zI, TI, FI⟩ := KR.open_
          have HBr := Lib.hid hBr
          clear KR hBr hm3 hlt hj
          go_wp2_with fail
          go_quiet (fail)
          go_wp2_with fail
          go_ret
          exact ⟨rfl, by repeat' (first | (with_reducible assumption) | (with_reducible exact Below.refl _ _) | (with_reducible refine Below.alloc ?_ ?_ _) | (with_reducible refine Bk.drewN_ ?_ _) | (with_reducible refine Below.drew ?_) | (with_reducible refine Below.setCell ?_ ?_ _) | go_size)⟩

set_option maxRecDepth 100000 in
set_option maxHeartbeats 8000000 in
theorem fits_d {w : World} {P : Pl} {M : Mach} {vm vs vc vi vo : Value} {sv : List Value} (h : MOn w P M vm vs vc vi vo sv) (A : Option Addr) (n cap : Nat) (im : Img) (hn : n = im.code.length) (hf : Fit im M) (hB : MBd M) (hdir : M.dir = -1) (hcp : ∀ A n cap, vs = .slice A n cap → cap = 1) :
    Calls Tryd.prog 37 #[.agg #[.slice A n cap, .int .i64 im.mem, .int .i64 im.stacks], .pointer (some ⟨P.b, P.off, none⟩)] w fun e w' => e = .returned (.bool true) ∧ Below w.heap.size w w' := by
  have HM := Lib.hid h
  have HF := Lib.hid hf
  have e0 := h.c0; have e1 := h.c1; rw [hdir] at e1; clear hdir; have e18 := h.c18; have e19 := h.c19
  obtain ⟨Am, cm, hvm, _⟩ := h.m
  rw [intCells_length] at hvm
  obtain ⟨capS, hvs, hcs, _⟩ := h.s.form (by rw [h.l.1.1]; have := hf.ok.s1; omega)
  rw [h.l.1.1] at hvs hcs
  have hcp := hcp _ _ _ hvs
  have hm6 := hB.sl
  have hcl6 := hB.cl
  rw [hvm] at e18
  rw [hvs] at e19
  have p0 := hf.p0; have p1 := hf.p1; rw [← hn] at p1
  have hml := hf.ml; have hsn := hf.sn
  obtain ⟨m, hm⟩ : ∃ m, M.s.length = m + 1 := ⟨M.s.length - 1, by have := hf.ok.s1; omega⟩
  rw [hm] at e19 hsn hcs hm6
  rw [← hml]
  obtain ⟨ss, hss⟩ : ∃ ss, im.stacks = ss := ⟨_, rfl⟩
  rw [hss] at hsn ⊢
  have ht4 : ((m : Int) + 1 != ss) = false := by simp; omega
  have HMM := Lib.hid hm
  have hblt := h.lt
  have HN := Lib.hid hn
  obtain ⟨pc, hpc⟩ : ∃ pc, M.pc = pc := ⟨_, rfl⟩
  rw [hpc] at e0 p0 p1
  obtain ⟨b, tt, pre, post, off, gm, gs, fx⟩ := P
  dsimp only at *
  have hbne : b ≠ w.heap.size := by omega
  have t1 : decide (pc < 0) = false := by simp; omega
  have t2 : decide ((n : Int) < pc) = false := by simp; omega
  have t3 : decide ((m : Int) + 1 < 1) = false := by simp; omega
  have hcs' : m + 1 ≤ capS := hcs
  have hs1 : ss = (m : Int) + 1 := by omega
  clear hB h hf hvm hvs hml hsn hm hn hpc hcs hss
  have HSS := Lib.hid hs1
  clear hs1
  obtain rfl : capS = 1 := hcp
  obtain rfl : m = 0 := by omega
  obtain rfl : ss = 1 := by have := HSS.out; omega
  clear ht4 t3 hcs' hm6
  simp only [Nat.zero_add] at e19
  obtain ⟨Ac, cc, hvc, hcc, hAc, hRc⟩ := HM.out.l.2.1
  obtain ⟨Ai, ci, hvi, _⟩ := HM.out.l.2.2.1
  obtain ⟨Ao, co, hvo, _⟩ := HM.out.l.2.2.2
  subst hvc hvi hvo
  have HRc := Lib.hid hRc
  clear hcc hAc hRc
  go_enter Tryd.func37, Tryd.ntmps37
  go_wp2_with fail
  go_quiet (fail)
  go_wp2_with fail
  go_quiet (fail)
  go_wp2_with fail
  refine wp_name ?_
  intro w2 hw2
  have hB2 : Below w.heap.size w w2 := by rw [hw2]; exact (by repeat' (first | (with_reducible assumption) | (with_reducible exact Below.refl _ _) | (with_reducible refine Below.alloc ?_ ?_ _) | (with_reducible refine Bk.drewN_ ?_ _) | (with_reducible refine Below.drew ?_) | (with_reducible refine Below.setCell ?_ ?_ _) | go_size))
  have KI : Blk w2 w.heap.size 24 #[.slice A n cap, .int .i64 M.m.length, .int .i64 1] := by rw [hw2]; exact (by repeat' (first | with_reducible assumption | (refine Blk.new' ?_ _ _; simp; done) | refine Blk.alloc ?_ _ | refine Blk.drewN ?_ _ | refine Blk.drew ?_))
  clear hw2 e0 e1 e18 e19
  go_loopw [70] (fun v wr => ∃ j : Nat, j ≤ 0 ∧ v = .int .i64 j ∧ w2 = wr) (fun v _ => 0 - (intOf v).toNat)
  case atStart => exact ⟨0, Nat.zero_le _, rfl, rfl⟩
  case round =>
    obtain ⟨j, hj, rfl, rfl⟩ := hrel
    by_cases hlt : j < 0
    · omega
    · obtain rfl : j = 0 := by omega
      have hm2 := HM.out.next hB2
      have e20 := hm2.c20
      dsimp only at e20
      have KIh := Lib.hid KI
      clear KI hm2 hlt hj
      go_wp2_with fail
      go_loopw [83] (fun v wr => ∃ j : Nat, j ≤ M.calls.length ∧ v = .int .i64 j ∧ Below w2.heap.size w2 wr) (fun v _ => M.calls.length - (intOf v).toNat)
      case atStart => exact ⟨0, Nat.zero_le _, rfl, Below.refl _ _⟩
      case round =>
        obtain ⟨j, hj, rfl, hBr⟩ := hrel
        have hB : Below w.heap.size w wr := hB2.next hBr
        have KR := KIh.out.next hBr
        clear e20
        by_cases hlt : j < M.calls.length
        · have hRr := HRc.out
          obtain ⟨bs, os, hAc, hds, hcell⟩ := hRr.2 (by omega)
          obtain ⟨g0, g1⟩ := actCells_get M.calls j hlt
          have hbs : bs < w.heap.size := hds.1
          have c0 := (hB.cell (p := ⟨bs, os + j * 2, none⟩) hbs).trans (hcell _ _ g0)
          have c1 := (hB.cell (p := ⟨bs, os + (j * 2 + 1), none⟩) hbs).trans (hcell _ _ g1)
          rw [← Nat.add_assoc] at c1
          obtain ⟨q0, q1⟩ := HF.out.cs (M.calls.getD j (0, false)) (by rw [List.getD_eq_getElem?_getD]; simp [hlt])
          rw [← HN.out] at q1
          generalize M.calls.getD j (0, false) = ca at *
          obtain ⟨site, tu⟩ := ca
          dsimp only at c0 c1 q0 q1
          have t4 : decide (site < 0) = false := by simp; omega
          have t5 : decide ((n : Int) ≤ site) = false := by simp; omega
          have j0 : (0 : Int) ≤ (j : Int) := by omega
          have j1 : (j : Int) < (M.calls.length : Int) := by omega
          obtain ⟨zI, TI, FI⟩ := KR.open_
          have hbr : bs < wr.heap.size := by have := hB.size; omega
          have HBr := Lib.hid hBr
          subst hAc
          clear hRr hcell g0 g1 hds KR hBr q0 q1 hB
          go_wp2_with fail
          exact ⟨⟨j + 1, by omega, by go_num, by have h1 := HBr.out; have h2 := h1.size; exact (by repeat' (first | (with_reducible assumption) | (with_reducible exact Below.refl _ _) | (with_reducible refine Below.alloc ?_ ?_ _) | (with_reducible refine Bk.drewN_ ?_ _) | (with_reducible refine Below.drew ?_) | (with_reducible refine Below.setCell ?_ ?_ _) | go_size))⟩, by simp [intOf]; omega⟩
        · obtain rfl : j = M.calls.length := by omega
          have hm3 := HM.out.next hB
          have e20 := hm3.c20; have e21 := hm3.c21; have e22 := hm3.c22; have e23 := hm3.c23; have e24 := hm3.c24
          dsimp only at e20 e21 e22 e23 e24
          have q1 : decide ((M.calls.length : Int) ≤ 100) = true := by have := HF.out.cl; simp; omega
          have q2 : decide ((M.inp.length : Int) ≤ 4096) = true := by have := HF.out.ok.inl; simp; omega
          have q3 : decide ((M.out.length : Int) ≤ 4096) = true := by have := HF.out.ok.outl; simp; omega
          have q4 : decide (0 ≤ M.fp) = true := by have := HF.out.ok.fp0; simp; omega
          have q5 : decide (M.fp ≤ (M.m.length : Int)) = true := by have := HF.out.ok.fp1; simp; omega
          have q6 : decide (0 ≤ M.sb) = true := by have := HF.out.ok.sb0; simp; omega
          have q7 : decide (M.sb ≤ 1) = true := by have := HF.out.ok.sb1; have := HMM.out; have := HSS.out; simp; omega
          obtain ⟨zI, TI, FI⟩ := KR.open_
          have HBr := Lib.hid hBr
          clear KR hBr hm3 hlt hj
          go_wp2_with fail
          go_quiet (fail)
          go_wp2_with fail
          go_ret
          exact ⟨rfl, by repeat' (first | (with_reducible assumption) | (with_reducible exact Below.refl _ _) | (with_reducible refine Below.alloc ?_ ?_ _) | (with_reducible refine Bk.drewN_ ?_ _) | (with_reducible refine Below.drew ?_) | (with_reducible refine Below.setCell ?_ ?_ _) | go_size)⟩


/-- fits holds where the machine fits. -/
theorem c_fitsT {w : World} {P : Pl} {M : Mach} {vm vs vc vi vo : Value} {sv : List Value} (h : MOn w P M vm vs vc vi vo sv) (A : Option Addr) (n cap : Nat) (im : Img) (hn : n = im.code.length) (hf : Fit im M) (hB : MBd M) :
    Calls Tryd.prog 37 #[.agg #[.slice A n cap, .int .i64 im.mem, .int .i64 im.stacks], .pointer (some ⟨P.b, P.off, none⟩)] w fun e w' => e = .returned (.bool true) ∧ Below w.heap.size w w' := by
  obtain ⟨capS, hvs, hcs, _⟩ := h.s.form (by rw [h.l.1.1]; have := hf.ok.s1; omega)
  have h1 : 1 ≤ capS := by have := hf.ok.s1; rw [h.l.1.1] at hcs; omega
  have key : ∀ A n cap, vs = .slice A n cap → cap = capS := by
    intro A n cap e; rw [hvs] at e; injection e with _ _ e; exact e.symm
  rcases Nat.eq_or_lt_of_le h1 with e | e
  · rcases hf.d with hd | hd
    · exact fits_c h A n cap im hn hf hB hd (fun A n cap e' => by rw [key _ _ _ e', e])
    · exact fits_d h A n cap im hn hf hB hd (fun A n cap e' => by rw [key _ _ _ e', e])
  · obtain ⟨c, rfl⟩ : ∃ c, capS = c + 1 := ⟨capS - 1, by omega⟩
    rcases hf.d with hd | hd
    · exact fits_a h A n cap im hn hf hB hd c (by omega) key
    · exact fits_b h A n cap im hn hf hB hd c (by omega) key
end Go.Proofs.YtmccbgnonmgbeaaDoor

/- The walks of cpu.Step, cpu.Back, cpu.Fits, on machines that fit. -/
set_option linter.unusedVariables false
namespace Go.Proofs.YtmccbgnonmgbeaaDoor
open Go.RowKit Bk

set_option maxRecDepth 100000 in
theorem c_Step {w : World} {P : Pl} {M : Mach} {vm vs vc vi vo : Value} {sv : List Value} (h : MOn w P M vm vs vc vi vo sv) {A : Option Addr} {n : Nat} (cap : Nat) (im : Img) (hE : Env w P A n im.code) (hv : im.check.2 = 0) (hf : Fit im M) (hB : MBd M) :
    Calls Tryd.prog 16 #[.agg #[.slice A n cap, .int .i64 im.mem, .int .i64 im.stacks], .pointer (some ⟨P.b, P.off, none⟩)] w (OnM P (Bk.step im.code M) w) := by
  have HM := Lib.hid h; have HE := Lib.hid hE; have HV := Lib.hid hv; have HF := Lib.hid hf; have HB := Lib.hid hB
  obtain ⟨b, tt, pre, post, off, gm, gs, fx⟩ := P
  dsimp only at *
  clear h hE hv hf hB
  go_enter Tryd.func16, Tryd.ntmps16
  go_wp2_with fail
  refine (c_fitsT (HM.out.next (by repeat' (first | (with_reducible assumption) | (with_reducible exact Below.refl _ _) | (with_reducible refine Below.alloc ?_ ?_ _) | (with_reducible refine Bk.drewN_ ?_ _) | (with_reducible refine Below.drew ?_) | (with_reducible refine Below.setCell ?_ ?_ _) | go_size))) A n cap im HE.out.hn HF.out HB.out).mono ?_
  rintro e w2 ⟨rfl, hb2⟩
  have hB_w2 : Below w.heap.size w w2 := Below.next (by repeat' (first | (with_reducible assumption) | (with_reducible exact Below.refl _ _) | (with_reducible refine Below.alloc ?_ ?_ _) | (with_reducible refine Bk.drewN_ ?_ _) | (with_reducible refine Below.drew ?_) | (with_reducible refine Below.setCell ?_ ?_ _) | go_size)) hb2
  have K_1 : Blk w2 (w.heap.size) 24 #[.slice A n cap, .int .i64 im.mem, .int .i64 im.stacks] := Blk.next (by repeat' (first | with_reducible exact H_1.out | with_reducible exact K0_1 | (refine Blk.new' ?_ _ _; simp; done) | with_reducible refine Blk.alloc ?_ _ | with_reducible refine Blk.drewN ?_ _ | with_reducible refine Blk.drew ?_)) hb2; (try clear H_1); (try clear T_1); (try clear z_1); (try clear F_1); obtain ⟨z_1, T_1, F_1⟩ := K_1.open_; have H_1 := Lib.hid K_1; clear K_1
  clear hb2
  go_wp2_with fail
  refine (c_step (HM.out.next hB_w2) cap im (HE.out.next hB_w2) HV.out HF.out HB.out).mono ?_
  rintro e w3 ⟨rfl, hm3, hf3⟩
  go_wp2_with fail
  go_ret
  exact ⟨rfl, hm3, (Fr.of hB_w2).trans hf3⟩

theorem MBd.turn {M : Mach} (h : MBd M) : MBd M.turn := ⟨h.f0, h.f1, h.s0, h.s1, h.ml, h.sl, h.cl, h.il, h.ol, h.st⟩

/-- Directions that Turn is given: a step leaves a machine that fits. -/
theorem step_dir {im : Img} (hv : im.check.2 = 0) (hw : CodeWf im.code) {M : Mach} (hf : Fit im M) : (Bk.step im.code M).2.dir = 1 ∨ (Bk.step im.code M).2.dir = -1 := by
  by_cases h0 : (Bk.step im.code M).1 = 0
  · exact (step_undo hv hw hf (Prod.ext h0 rfl)).1.d
  · have : (Bk.step im.code M).2 = M := by
      rw [step_eq] at h0 ⊢
      have en : ∀ k, ErrB M (enter im.code M k) := fun k => by unfold enter; exact ErrB.ite (ErrB.self _ _) (ErrB.ite (ErrB.self _ _) (ErrB.ok _ _))
      have le : ∀ k, ErrB M (leave im.code M k) := fun k => by unfold leave; exact ErrB.ite (ErrB.self _ _) (ErrB.ite (ErrB.self _ _) (ErrB.ok _ _))
      have ju : ∀ k, ErrB M (jump im.code M k) := fun k => by unfold jump; exact ErrB.ite (ErrB.self _ _) (ErrB.ite (ErrB.ok _ _) (ErrB.ite (ErrB.ok _ _) (ErrB.self _ _)))
      exact ErrB.ite (ErrB.self _ _) (ErrB.ite (ErrB.self _ _) (ErrB.ite (ErrB.self _ _) (ErrB.ite (en _) (ErrB.ite (le _) (ErrB.ite (ju _) (ErrB.ite (ErrB.ok _ _) (ErrB.self _ _))))))) h0
    rw [this]; exact hf.d

set_option maxRecDepth 100000 in
theorem c_Back {w : World} {P : Pl} {M : Mach} {vm vs vc vi vo : Value} {sv : List Value} (h : MOn w P M vm vs vc vi vo sv) {A : Option Addr} {n : Nat} (cap : Nat) (im : Img) (hE : Env w P A n im.code) (hv : im.check.2 = 0) (hf : Fit im M) (hB : MBd M) :
    Calls Tryd.prog 19 #[.agg #[.slice A n cap, .int .i64 im.mem, .int .i64 im.stacks], .pointer (some ⟨P.b, P.off, none⟩)] w (OnM P ((Bk.step im.code M.turn).1, (Bk.step im.code M.turn).2.turn) w) := by
  have HM := Lib.hid h; have HE := Lib.hid hE; have HV := Lib.hid hv; have HF := Lib.hid hf; have HB := Lib.hid hB
  obtain ⟨ee, N, hst⟩ : ∃ ee N, Bk.step im.code M.turn = (ee, N) := ⟨_, _, rfl⟩
  have hnd : N.dir = 1 ∨ N.dir = -1 := by have := step_dir hv hE.hw hf.turn; rw [hst] at this; exact this
  rw [hst]
  have HS := Lib.hid hst; have HND := Lib.hid hnd
  obtain ⟨b, tt, pre, post, off, gm, gs, fx⟩ := P
  dsimp only at *
  clear h hE hv hf hB hst hnd
  go_enter Tryd.func19, Tryd.ntmps19
  go_wp2_with fail
  refine (c_fitsT (HM.out.next (by repeat' (first | (with_reducible assumption) | (with_reducible exact Below.refl _ _) | (with_reducible refine Below.alloc ?_ ?_ _) | (with_reducible refine Bk.drewN_ ?_ _) | (with_reducible refine Below.drew ?_) | (with_reducible refine Below.setCell ?_ ?_ _) | go_size))) A n cap im HE.out.hn HF.out HB.out).mono ?_
  rintro e w2 ⟨rfl, hb2⟩
  have hB_w2 : Below w.heap.size w w2 := Below.next (by repeat' (first | (with_reducible assumption) | (with_reducible exact Below.refl _ _) | (with_reducible refine Below.alloc ?_ ?_ _) | (with_reducible refine Bk.drewN_ ?_ _) | (with_reducible refine Below.drew ?_) | (with_reducible refine Below.setCell ?_ ?_ _) | go_size)) hb2
  have K_1 : Blk w2 (w.heap.size) 24 #[.slice A n cap, .int .i64 im.mem, .int .i64 im.stacks] := Blk.next (by repeat' (first | with_reducible exact H_1.out | with_reducible exact K0_1 | (refine Blk.new' ?_ _ _; simp; done) | with_reducible refine Blk.alloc ?_ _ | with_reducible refine Blk.drewN ?_ _ | with_reducible refine Blk.drew ?_)) hb2; (try clear H_1); (try clear T_1); (try clear z_1); (try clear F_1); obtain ⟨z_1, T_1, F_1⟩ := K_1.open_; have H_1 := Lib.hid K_1; clear K_1
  clear hb2
  go_wp2_with fail
  refine (c_Turn (HM.out.next hB_w2) HF.out.d).mono ?_
  rintro e w3 ⟨rfl, hm3, hf3⟩
  obtain ⟨vm3, vs3, vc3, vi3, vo3, sv3, h3⟩ := hm3
  have H3 := Lib.hid h3
  have F3 : Fr (Pl.O ⟨b, tt, pre, post, off, gm, gs, fx⟩) w w3 := (Fr.of hB_w2).trans hf3
  have KI := hf3.blk H_1.out (by rintro (e | e | e) <;> (have g1 := HM.out.lt; have g2 := HM.out.gm; have g3 := HM.out.gs; dsimp only at e g1 g2 g3; omega))
  clear T_1 z_1 F_1 H_1 h3 hf3
  obtain ⟨zI, TI, FI⟩ := KI.open_
  clear KI
  go_wp2_with fail
  refine (OnM.of (c_step H3.out cap im (HE.out.fr F3) HV.out HF.out.turn (MBd.turn HB.out)) HS.out.symm).mono ?_
  rintro e w4 ⟨rfl, hm4, hf4⟩
  obtain ⟨vm4, vs4, vc4, vi4, vo4, sv4, h4⟩ := hm4
  have F4 := F3.trans hf4
  clear hf4
  go_wp2_with fail
  refine (c_Turn h4 HND.out).mono ?_
  rintro e w5 ⟨rfl, hm5, hf5⟩
  go_wp2_with fail
  go_ret
  exact ⟨rfl, hm5, F4.trans hf5⟩

set_option maxRecDepth 100000 in
theorem c_FitsT {w : World} {P : Pl} {M : Mach} {vm vs vc vi vo : Value} {sv : List Value} (h : MOn w P M vm vs vc vi vo sv) {A : Option Addr} {n : Nat} (cap : Nat) (im : Img) (hE : Env w P A n im.code) (hv : im.check.2 = 0) (hf : Fit im M) (hB : MBd M) :
    Calls Tryd.prog 26 #[.agg #[.slice A n cap, .int .i64 im.mem, .int .i64 im.stacks], .pointer (some ⟨P.b, P.off, none⟩)] w fun e w' => e = .returned (.bool true) ∧ Below w.heap.size w w' := by
  have HM := Lib.hid h; have HE := Lib.hid hE; have HF := Lib.hid hf; have HB := Lib.hid hB
  have hva : im.valid = true := by unfold Img.valid; rw [hv]; rfl
  have HV := Lib.hid hva
  obtain ⟨b, tt, pre, post, off, gm, gs, fx⟩ := P
  dsimp only at *
  clear h hE hv hf hB hva
  go_enter Tryd.func26, Tryd.ntmps26
  go_wp2_with fail
  refine (c_imValid' A n cap im HV.out _ (HE.out.next (by repeat' (first | (with_reducible assumption) | (with_reducible exact Below.refl _ _) | (with_reducible refine Below.alloc ?_ ?_ _) | (with_reducible refine Bk.drewN_ ?_ _) | (with_reducible refine Below.drew ?_) | (with_reducible refine Below.setCell ?_ ?_ _) | go_size))).rd HE.out.hw (HE.out.next (by repeat' (first | (with_reducible assumption) | (with_reducible exact Below.refl _ _) | (with_reducible refine Below.alloc ?_ ?_ _) | (with_reducible refine Bk.drewN_ ?_ _) | (with_reducible refine Below.drew ?_) | (with_reducible refine Below.setCell ?_ ?_ _) | go_size))).hT).mono ?_
  rintro e w2 ⟨rfl, hb2⟩
  have hB_w2 : Below w.heap.size w w2 := Below.next (by repeat' (first | (with_reducible assumption) | (with_reducible exact Below.refl _ _) | (with_reducible refine Below.alloc ?_ ?_ _) | (with_reducible refine Bk.drewN_ ?_ _) | (with_reducible refine Below.drew ?_) | (with_reducible refine Below.setCell ?_ ?_ _) | go_size)) hb2
  have K_1 : Blk w2 (w.heap.size) 24 #[.slice A n cap, .int .i64 im.mem, .int .i64 im.stacks] := Blk.next (by repeat' (first | with_reducible exact H_1.out | with_reducible exact K0_1 | (refine Blk.new' ?_ _ _; simp; done) | with_reducible refine Blk.alloc ?_ _ | with_reducible refine Blk.drewN ?_ _ | with_reducible refine Blk.drew ?_)) hb2; (try clear H_1); (try clear T_1); (try clear z_1); (try clear F_1); obtain ⟨z_1, T_1, F_1⟩ := K_1.open_; have H_1 := Lib.hid K_1; clear K_1
  clear hb2
  go_wp2_with fail
  refine (c_fitsT (HM.out.next hB_w2) A n cap im HE.out.hn HF.out HB.out).mono ?_
  rintro e w3 ⟨rfl, hb3⟩
  have hB_w3 : Below w.heap.size w w3 := Below.next hB_w2 hb3
  go_wp2_with fail
  go_ret
  exact ⟨rfl, hB_w3⟩
end Go.Proofs.YtmccbgnonmgbeaaDoor
