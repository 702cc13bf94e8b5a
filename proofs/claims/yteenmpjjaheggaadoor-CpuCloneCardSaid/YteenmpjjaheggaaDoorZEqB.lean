/- cpu.Equal with both answers. -/
import Derived.Test.YteenmpjjaheggaaDoorCpX
set_option linter.unusedVariables false
set_option linter.unusedSimpArgs false
set_option maxRecDepth 100000
set_option maxHeartbeats 8000000
namespace Go.Proofs.YteenmpjjaheggaaDoor
open Go.RowKit Bk
theorem c_EqIv {w : World} {D D' : Nat → Prop} {v v' : Value} {l l' : List Int} (h : Sl w D 1 v l.length (intCells l)) (h' : Sl w D' 1 v' l'.length (intCells l')) (hD : ∀ k, D k → k < w.heap.size) (hD' : ∀ k, D' k → k < w.heap.size) (hmax : l.length ≤ 20000000000000) (hmax' : l'.length ≤ 20000000000000) {r : Bool} (hr : decide (l = l') = r) :
    Calls Tryd.prog 35 #[v, v'] w fun e w' => e = .returned (.bool r) ∧ Below w.heap.size w w' := hr ▸ c_EqI h h' hD hD' hmax hmax'
theorem c_EqAv {w : World} {D D' : Nat → Prop} {v v' : Value} {l l' : List (Int × Bool)} (h : Sl w D 2 v l.length (actCells l)) (h' : Sl w D' 2 v' l'.length (actCells l')) (hD : ∀ k, D k → k < w.heap.size) (hD' : ∀ k, D' k → k < w.heap.size) (hmax : l.length ≤ 20000000000000) (hmax' : l'.length ≤ 20000000000000) {r : Bool} (hr : decide (l = l') = r) :
    Calls Tryd.prog 38 #[v, v'] w fun e w' => e = .returned (.bool r) ∧ Below w.heap.size w w' := hr ▸ c_EqA h h' hD hD' hmax hmax'
theorem c_EqFv {w : World} {D D' : Nat → Prop} {v v' : Value} {sv sv' : List Value} {ss ss' : List (List Int)} (h : Sl w D 1 v ss.length sv) (h' : Sl w D' 1 v' ss'.length sv') (hs : SvRd w D sv ss) (hs' : SvRd w D' sv' ss') (hD : ∀ k, D k → k < w.heap.size) (hD' : ∀ k, D' k → k < w.heap.size) (hmax : ss.length ≤ 20000000000000) (hmax' : ss'.length ≤ 20000000000000) (hl : ∀ l ∈ ss, l.length ≤ 20000000000000) (hl' : ∀ l ∈ ss', l.length ≤ 20000000000000) {r : Bool} (hr : decide (ss = ss') = r) :
    Calls Tryd.prog 36 #[v, v', .func (.func 37) #[] #[]] w fun e w' => e = .returned (.bool r) ∧ Below w.heap.size w w' := hr ▸ c_EqF h h' hs hs' hD hD' hmax hmax' hl hl'
theorem _root_.Bk.MLn.up {M : Mach} (h : MLn M) : M.m.length ≤ 20000000000000 ∧ M.s.length ≤ 20000000000000 ∧ (∀ l ∈ M.s, l.length ≤ 20000000000000) ∧ M.calls.length ≤ 20000000000000 ∧ M.inp.length ≤ 20000000000000 ∧ M.out.length ≤ 20000000000000 :=
  ⟨by have := h.ml; omega, by have := h.sl; omega, fun l hl => by have := h.st l hl; omega, by have := h.cl; omega, by have := h.il; omega, by have := h.ol; omega⟩
theorem c_EqualK {w : World} {D D' : Nat → Prop} {b off b' off' : Nat} {M M' : Mach} {vm vs vc vi vo vm' vs' vc' vi' vo' : Value} {sv sv' : List Value} (h : MRd w D b off M vm vs vc vi vo sv) (h' : MRd w D' b' off' M' vm' vs' vc' vi' vo' sv') (hB : MLn M) (hB' : MLn M') {v : Bool} (hk : ((M.pc == M'.pc) = false ∧ v = false) ∨ ((M.pc == M'.pc) = true ∧ (M.dir == M'.dir) = false ∧ v = false) ∨ ((M.pc == M'.pc) = true ∧ (M.dir == M'.dir) = true ∧ decide (M.r = M'.r) = false ∧ v = false) ∨ ((M.pc == M'.pc) = true ∧ (M.dir == M'.dir) = true ∧ decide (M.r = M'.r) = true ∧ decide (M.m = M'.m) = false ∧ v = false) ∨ ((M.pc == M'.pc) = true ∧ (M.dir == M'.dir) = true ∧ decide (M.r = M'.r) = true ∧ decide (M.m = M'.m) = true ∧ decide (M.s = M'.s) = false ∧ v = false) ∨ ((M.pc == M'.pc) = true ∧ (M.dir == M'.dir) = true ∧ decide (M.r = M'.r) = true ∧ decide (M.m = M'.m) = true ∧ decide (M.s = M'.s) = true ∧ decide (M.calls = M'.calls) = false ∧ v = false) ∨ ((M.pc == M'.pc) = true ∧ (M.dir == M'.dir) = true ∧ decide (M.r = M'.r) = true ∧ decide (M.m = M'.m) = true ∧ decide (M.s = M'.s) = true ∧ decide (M.calls = M'.calls) = true ∧ (M.fp == M'.fp) = false ∧ v = false) ∨ ((M.pc == M'.pc) = true ∧ (M.dir == M'.dir) = true ∧ decide (M.r = M'.r) = true ∧ decide (M.m = M'.m) = true ∧ decide (M.s = M'.s) = true ∧ decide (M.calls = M'.calls) = true ∧ (M.fp == M'.fp) = true ∧ (M.sb == M'.sb) = false ∧ v = false) ∨ ((M.pc == M'.pc) = true ∧ (M.dir == M'.dir) = true ∧ decide (M.r = M'.r) = true ∧ decide (M.m = M'.m) = true ∧ decide (M.s = M'.s) = true ∧ decide (M.calls = M'.calls) = true ∧ (M.fp == M'.fp) = true ∧ (M.sb == M'.sb) = true ∧ decide (M.inp = M'.inp) = false ∧ v = false) ∨ ((M.pc == M'.pc) = true ∧ (M.dir == M'.dir) = true ∧ decide (M.r = M'.r) = true ∧ decide (M.m = M'.m) = true ∧ decide (M.s = M'.s) = true ∧ decide (M.calls = M'.calls) = true ∧ (M.fp == M'.fp) = true ∧ (M.sb == M'.sb) = true ∧ decide (M.inp = M'.inp) = true ∧ decide (M.out = M'.out) = false ∧ v = false) ∨ ((M.pc == M'.pc) = true ∧ (M.dir == M'.dir) = true ∧ decide (M.r = M'.r) = true ∧ decide (M.m = M'.m) = true ∧ decide (M.s = M'.s) = true ∧ decide (M.calls = M'.calls) = true ∧ (M.fp == M'.fp) = true ∧ (M.sb == M'.sb) = true ∧ decide (M.inp = M'.inp) = true ∧ decide (M.out = M'.out) = true ∧ v = true)) :
    Calls Tryd.prog 10 #[.pointer (some ⟨b, off, none⟩), .pointer (some ⟨b', off', none⟩)] w fun e w' => e = .returned (.bool v) ∧ Below w.heap.size w w' := by
  have HM := Lib.hid h; have HM' := Lib.hid h'
  have hlt := h.lt; have hlt' := h'.lt
  have HU := Lib.hid hB.up; have HU' := Lib.hid hB'.up
  have hrl := h.rl; have hrl' := h'.rl
  have hRV : ∀ r : Bool, decide (M.r = M'.r) = r → ∀ W : World, (binOp .eql 22 (.agg (intCells M.r).toArray) (.agg (intCells M'.r).toArray)).run Tryd.prog W = .ok (.bool r) W := fun r e W => by rw [eq_regs hrl hrl', e]
  have HRV := Lib.hid hRV
  clear h h' hB hB' hrl hrl' hRV
  rcases hk with ⟨t0, rfl⟩ | ⟨t0, t1, rfl⟩ | ⟨t0, t1, t2, rfl⟩ | ⟨t0, t1, t2, t3, rfl⟩ | ⟨t0, t1, t2, t3, t4, rfl⟩ | ⟨t0, t1, t2, t3, t4, t5, rfl⟩ | ⟨t0, t1, t2, t3, t4, t5, t6, rfl⟩ | ⟨t0, t1, t2, t3, t4, t5, t6, t7, rfl⟩ | ⟨t0, t1, t2, t3, t4, t5, t6, t7, t8, rfl⟩ | ⟨t0, t1, t2, t3, t4, t5, t6, t7, t8, t9, rfl⟩ | ⟨t0, t1, t2, t3, t4, t5, t6, t7, t8, t9, rfl⟩
  all_goals
    (try (have hRR := HRV.out _ t2))
    go_enter Tryd.func10, Tryd.ntmps10
    go_wp2_with fail
    simp only [List.append_eq, List.cons_append, List.nil_append]
    refine wp_region_growF (by kernel_rfl) (by kernel_rfl) ?_; intro W hW; have hneW : Nonempty (Grw W) := ⟨⟨W, Below.refl _ _⟩⟩; have HBz := Lib.hid (fun z => Below.next (show Below w.heap.size w W by (rw [hW]; exact (by go_grown))) (grow_below W z))
    have g0 := fun z => (HM.out.next (HBz.out z)).c0; have i0 := fun z => (HM'.out.next (HBz.out z)).c0
    have g1 := fun z => (HM.out.next (HBz.out z)).c1; have i1 := fun z => (HM'.out.next (HBz.out z)).c1
    have g18 := fun z => (HM.out.next (HBz.out z)).c18; have i18 := fun z => (HM'.out.next (HBz.out z)).c18
    have g19 := fun z => (HM.out.next (HBz.out z)).c19; have i19 := fun z => (HM'.out.next (HBz.out z)).c19
    have g20 := fun z => (HM.out.next (HBz.out z)).c20; have i20 := fun z => (HM'.out.next (HBz.out z)).c20
    have g21 := fun z => (HM.out.next (HBz.out z)).c21; have i21 := fun z => (HM'.out.next (HBz.out z)).c21
    have g22 := fun z => (HM.out.next (HBz.out z)).c22; have i22 := fun z => (HM'.out.next (HBz.out z)).c22
    have g23 := fun z => (HM.out.next (HBz.out z)).c23; have i23 := fun z => (HM'.out.next (HBz.out z)).c23
    have g24 := fun z => (HM.out.next (HBz.out z)).c24; have i24 := fun z => (HM'.out.next (HBz.out z)).c24
    have gR := fun z => load_regs (HM.out.next (HBz.out z)); have iR := fun z => load_regs (HM'.out.next (HBz.out z))
    have HW := Lib.hid hW; clear hW
    repeat (first | (go_big_quiet_want; refine quiet_loadG 22 rfl rfl (gR) ?_; go_big_quiet_on; simp only [Act.put, Bk.PU]) | (go_big_quiet_want; refine quiet_loadG 22 rfl rfl (iR) ?_; go_big_quiet_on; simp only [Act.put, Bk.PU]) | go_big_quiet_step ((first | (go_at_call 35; with_reducible exact quiet_grow (c_EqIv (HM.out.next (HBz.out _)).m (HM'.out.next (HBz.out _)).m (HM.out.next (HBz.out _)).d (HM'.out.next (HBz.out _)).d HU.out.1 HU'.out.1 t3)) | (go_at_call 36; with_reducible exact quiet_grow (c_EqFv (HM.out.next (HBz.out _)).s (HM'.out.next (HBz.out _)).s (HM.out.next (HBz.out _)).ls (HM'.out.next (HBz.out _)).ls (HM.out.next (HBz.out _)).d (HM'.out.next (HBz.out _)).d HU.out.2.1 HU'.out.2.1 HU.out.2.2.1 HU'.out.2.2.1 t4)) | (go_at_call 38; with_reducible exact quiet_grow (c_EqAv (HM.out.next (HBz.out _)).lc (HM'.out.next (HBz.out _)).lc (HM.out.next (HBz.out _)).d (HM'.out.next (HBz.out _)).d HU.out.2.2.2.1 HU'.out.2.2.2.1 t5)) | (go_at_call 35; with_reducible exact quiet_grow (c_EqIv (HM.out.next (HBz.out _)).li (HM'.out.next (HBz.out _)).li (HM.out.next (HBz.out _)).d (HM'.out.next (HBz.out _)).d HU.out.2.2.2.2.1 HU'.out.2.2.2.2.1 t8)) | (go_at_call 35; with_reducible exact quiet_grow (c_EqIv (HM.out.next (HBz.out _)).lo (HM'.out.next (HBz.out _)).lo (HM.out.next (HBz.out _)).d (HM'.out.next (HBz.out _)).d HU.out.2.2.2.2.2 HU'.out.2.2.2.2.2 t9)))))
    clear g0 i0 g1 i1 g18 i18 g19 i19 g20 i20 g21 i21 g22 i22 g23 i23 g24 i24 gR iR
    refine wpQuiet_nil ?_; rintro _ ⟨z, rfl⟩; have hb1 := grow_below W z; have hB1 := HBz.out z; generalize grow W z = w1 at hb1 hB1 ⊢; have hW := HW.out; clear HW HBz hneW; subst hW; obtain ⟨hc1, hf1⟩ := bcell hb1; obtain ⟨hcA1, hfA1⟩ := bcell hB1; have HB1 := Lib.hid hb1; clear hb1
    go_wp2_with fail
    go_ret
    exact ⟨rfl, by go_grown⟩
theorem mach_eq {M M' : Mach} (e0 : M.pc = M'.pc) (e1 : M.dir = M'.dir) (e2 : M.r = M'.r) (e3 : M.m = M'.m) (e4 : M.s = M'.s) (e5 : M.calls = M'.calls) (e6 : M.fp = M'.fp) (e7 : M.sb = M'.sb) (e8 : M.inp = M'.inp) (e9 : M.out = M'.out) : M = M' := by
  obtain ⟨⟩ := M; obtain ⟨⟩ := M'
  simp only at *
  subst e0 e1 e2 e3 e4 e5 e6 e7 e8 e9
  rfl
theorem c_EqualB {w : World} {D D' : Nat → Prop} {b off b' off' : Nat} {M M' : Mach} {vm vs vc vi vo vm' vs' vc' vi' vo' : Value} {sv sv' : List Value} (h : MRd w D b off M vm vs vc vi vo sv) (h' : MRd w D' b' off' M' vm' vs' vc' vi' vo' sv') (hB : MLn M) (hB' : MLn M') {v : Bool} (hv : decide (M = M') = v) :
    Calls Tryd.prog 10 #[.pointer (some ⟨b, off, none⟩), .pointer (some ⟨b', off', none⟩)] w fun e w' => e = .returned (.bool v) ∧ Below w.heap.size w w' := by
  have no : ¬ M = M' → v = false := fun hn => by rw [← hv]; exact decide_eq_false hn
  by_cases e0 : M.pc = M'.pc
  rotate_left
  · exact c_EqualK h h' hB hB' (.inl ⟨by simpa using e0, no (fun h => e0 (by rw [h]))⟩)
  by_cases e1 : M.dir = M'.dir
  rotate_left
  · exact c_EqualK h h' hB hB' (.inr (.inl ⟨by simp [e0], by simpa using e1, no (fun h => e1 (by rw [h]))⟩))
  by_cases e2 : M.r = M'.r
  rotate_left
  · exact c_EqualK h h' hB hB' (.inr (.inr (.inl ⟨by simp [e0], by simp [e1], decide_eq_false e2, no (fun h => e2 (by rw [h]))⟩)))
  by_cases e3 : M.m = M'.m
  rotate_left
  · exact c_EqualK h h' hB hB' (.inr (.inr (.inr (.inl ⟨by simp [e0], by simp [e1], decide_eq_true e2, decide_eq_false e3, no (fun h => e3 (by rw [h]))⟩))))
  by_cases e4 : M.s = M'.s
  rotate_left
  · exact c_EqualK h h' hB hB' (.inr (.inr (.inr (.inr (.inl ⟨by simp [e0], by simp [e1], decide_eq_true e2, decide_eq_true e3, decide_eq_false e4, no (fun h => e4 (by rw [h]))⟩)))))
  by_cases e5 : M.calls = M'.calls
  rotate_left
  · exact c_EqualK h h' hB hB' (.inr (.inr (.inr (.inr (.inr (.inl ⟨by simp [e0], by simp [e1], decide_eq_true e2, decide_eq_true e3, decide_eq_true e4, decide_eq_false e5, no (fun h => e5 (by rw [h]))⟩))))))
  by_cases e6 : M.fp = M'.fp
  rotate_left
  · exact c_EqualK h h' hB hB' (.inr (.inr (.inr (.inr (.inr (.inr (.inl ⟨by simp [e0], by simp [e1], decide_eq_true e2, decide_eq_true e3, decide_eq_true e4, decide_eq_true e5, by simpa using e6, no (fun h => e6 (by rw [h]))⟩)))))))
  by_cases e7 : M.sb = M'.sb
  rotate_left
  · exact c_EqualK h h' hB hB' (.inr (.inr (.inr (.inr (.inr (.inr (.inr (.inl ⟨by simp [e0], by simp [e1], decide_eq_true e2, decide_eq_true e3, decide_eq_true e4, decide_eq_true e5, by simp [e6], by simpa using e7, no (fun h => e7 (by rw [h]))⟩))))))))
  by_cases e8 : M.inp = M'.inp
  rotate_left
  · exact c_EqualK h h' hB hB' (.inr (.inr (.inr (.inr (.inr (.inr (.inr (.inr (.inl ⟨by simp [e0], by simp [e1], decide_eq_true e2, decide_eq_true e3, decide_eq_true e4, decide_eq_true e5, by simp [e6], by simp [e7], decide_eq_false e8, no (fun h => e8 (by rw [h]))⟩)))))))))
  by_cases e9 : M.out = M'.out
  rotate_left
  · exact c_EqualK h h' hB hB' (.inr (.inr (.inr (.inr (.inr (.inr (.inr (.inr (.inr (.inl ⟨by simp [e0], by simp [e1], decide_eq_true e2, decide_eq_true e3, decide_eq_true e4, decide_eq_true e5, by simp [e6], by simp [e7], decide_eq_true e8, decide_eq_false e9, no (fun h => e9 (by rw [h]))⟩))))))))))
  exact c_EqualK h h' hB hB' (.inr (.inr (.inr (.inr (.inr (.inr (.inr (.inr (.inr (.inr ⟨by simp [e0], by simp [e1], decide_eq_true e2, decide_eq_true e3, decide_eq_true e4, decide_eq_true e5, by simp [e6], by simp [e7], decide_eq_true e8, decide_eq_true e9, by rw [← hv]; exact decide_eq_true (mach_eq e0 e1 e2 e3 e4 e5 e6 e7 e8 e9)⟩))))))))))
theorem c_EqualNa (p : Addr) (w : World) : Calls Tryd.prog 10 #[.pointer none, .pointer (some p)] w fun e w' => e = .returned (.bool false) ∧ Below w.heap.size w w' := by
  go_enter Tryd.func10, Tryd.ntmps10
  go_wp2_with fail
  go_ret
  exact ⟨rfl, by go_grown⟩
theorem c_EqualNb (p : Addr) (w : World) : Calls Tryd.prog 10 #[.pointer (some p), .pointer none] w fun e w' => e = .returned (.bool false) ∧ Below w.heap.size w w' := by
  go_enter Tryd.func10, Tryd.ntmps10
  go_wp2_with fail
  go_ret
  exact ⟨rfl, by go_grown⟩
theorem c_EqualNn (w : World) : Calls Tryd.prog 10 #[.pointer none, .pointer none] w fun e w' => e = .returned (.bool true) ∧ Below w.heap.size w w' := by
  go_enter Tryd.func10, Tryd.ntmps10
  go_wp2_with fail
  go_ret
  exact ⟨rfl, by go_grown⟩
theorem c_CloneN (w : World) : Calls Tryd.prog 9 #[.pointer none] w fun e w' => e = .returned (.pointer none) ∧ Below w.heap.size w w' := by
  go_enter Tryd.func9, Tryd.ntmps9
  go_wp2_with fail
  go_ret
  exact ⟨rfl, by go_grown⟩
end Go.Proofs.YteenmpjjaheggaaDoor
