/- Several texts in one: CpuZ CpuEa CpuEb. -/
import Derived.Test.YtbijhlgdilkopaaDoorCpX
set_option linter.unusedVariables false
set_option linter.unusedSimpArgs false
/- slices.Equal at []int and []Activation. -/
set_option maxRecDepth 100000
set_option maxHeartbeats 8000000
set_option linter.unusedVariables false
namespace Go.Proofs.YtbijhlgdilkopaaDoor
open Go.RowKit Bk

theorem neq_act (W : World) (a a' : Int) (b b' : Bool) :
    (binOp .neq 100 (.agg #[.int .i64 a, .bool b]) (.agg #[.int .i64 a', .bool b'])).run Tryd.prog W = .ok (.bool (!decide ((a, b) = (a', b')))) W := by
  by_cases e0 : a = a'
  · by_cases e1 : b = b'
    · simp [go_sem, e0, e1]
    · simp [go_sem, e0, e1]
  · simp [go_sem, e0]
theorem neq_int (W : World) (a a' : Int) : (binOp .neq 3 (.int .i64 a) (.int .i64 a')).run Tryd.prog W = .ok (.bool (!decide (a = a'))) W := by
  by_cases e0 : a = a'
  · simp [go_sem, e0]
  · simp [go_sem, e0]
theorem Sl.some_ {w : World} {D : Nat → Prop} {sz n : Nat} {v : Value} {xs : List Value} (h : Sl w D sz v n xs) (hn : 0 < n) : ∃ b off cap, v = .slice (some ⟨b, off, none⟩) n cap ∧ D b ∧ ∀ j u, xs[j]? = some u → w.cell? ⟨b, off + j, none⟩ = some u := by
  obtain ⟨A, cap, rfl, _, _, h3⟩ := h
  obtain ⟨b, off, rfl, hd, hc⟩ := h3.2 hn
  exact ⟨b, off, cap, rfl, hd, hc⟩

theorem c_EqI {w : World} {D D' : Nat → Prop} {v v' : Value} {l l' : List Int} (h : Sl w D 1 v l.length (intCells l)) (h' : Sl w D' 1 v' l'.length (intCells l')) (hD : ∀ k, D k → k < w.heap.size) (hD' : ∀ k, D' k → k < w.heap.size) (hmax : l.length ≤ 17592186044400) (hmax' : l'.length ≤ 17592186044400) :
    Calls Tryd.prog 41 #[v, v'] w fun e w' => e = .returned (.bool (decide (l = l'))) ∧ Below w.heap.size w w' := by
  have HS := Lib.hid h; have HS' := Lib.hid h'
  obtain ⟨A, cap, rfl, _⟩ := h
  obtain ⟨A', cap', rfl, _⟩ := h'
  by_cases hll : l.length = l'.length
  · have hnn : ((l.length : Int) != (l.length : Int)) = false := by simp
    obtain ⟨n, hn⟩ : ∃ n, n = l.length := ⟨_, rfl⟩
    obtain ⟨r, hr⟩ : ∃ r, r = decide (l = l') := ⟨_, rfl⟩
    rw [← hr]
    rw [← hll]
    rw [← hn] at hnn hmax ⊢
    have HN := Lib.hid hn; have HR := Lib.hid hr; have HLL := Lib.hid hll
    clear hn hr hll hmax'
    go_enter Tryd.func41, Tryd.ntmps41
    go_wp2_with fail
    go_loopw [13] (fun v13 wr => ∃ i : Nat, i ≤ n ∧ v13 = .int .i64 i ∧ (∀ k, k < i → l.getD k 0 = l'.getD k 0) ∧ Below w.heap.size w wr) (fun i _ => n - (intOf i).toNat)
    case atStart => exact ⟨0, Nat.zero_le _, rfl, fun k hk => absurd hk (Nat.not_lt_zero _), by go_grown⟩
    case round =>
      obtain ⟨j, hi, rfl, hz, hB⟩ := hrel
      have HZ := Lib.hid hz; clear hz
      by_cases hlt' : j < n
      · have hlt : j < l.length := HN.out ▸ hlt'
        have hll := HLL.out
        obtain ⟨bx, ox, cpx, ex, hdx, hcx⟩ := Sl.some_ HS.out (by omega)
        obtain ⟨by', oy, cpy, ey, hdy, hcy⟩ := Sl.some_ HS'.out (by omega)
        obtain ⟨rfl, -, -⟩ : A = some ⟨bx, ox, none⟩ ∧ True ∧ True := ⟨by injection ex, trivial, trivial⟩
        obtain ⟨rfl, -, -⟩ : A' = some ⟨by', oy, none⟩ ∧ True ∧ True := ⟨by injection ey, trivial, trivial⟩
        have cx := (hB.cell (p := ⟨bx, ox + j, none⟩) (hD _ hdx)).trans (hcx _ _ (intCells_get l j hlt))
        have cy := (hB.cell (p := ⟨by', oy + j, none⟩) (hD' _ hdy)).trans (hcy _ _ (intCells_get l' j (hll ▸ hlt)))
        clear hcx hcy ex ey hll hlt
        generalize hx : l.getD j 0 = x at *
        generalize hy : l'.getD j 0 = y at *
        have HX := Lib.hid hx; have HY := Lib.hid hy; clear hx hy
        obtain ⟨z, hv⟩ : ∃ z, (x != y) = z := ⟨_, rfl⟩
        have HV := Lib.hid hv
        have hbx : bx < wr.heap.size := by have := hB.size; have := hD _ hdx; omega
        have hby : by' < wr.heap.size := by have := hB.size; have := hD' _ hdy; omega
        cases z with
        | true =>
          go_wp2_with fail
          go_quiet (fail)
          go_wp2_with fail
          go_ret
          refine ⟨ret_bool ?_, by repeat' (first | (with_reducible assumption) | (with_reducible exact Below.refl _ _) | (with_reducible refine Below.alloc ?_ ?_ _) | (with_reducible refine Bk.drewN_ ?_ _) | (with_reducible refine Below.drew ?_) | (with_reducible refine Below.setCell ?_ ?_ _) | go_size)⟩
          rw [HR.out]
          symm
          rw [decide_eq_false_iff_not]
          intro e
          have := HV.out
          have hxy : x = y := by rw [← HX.out, ← HY.out, e]
          subst hxy
          simp at this
        | false =>
          have hxy : x = y := by
            have := HV.out
            simpa [Prod.ext_iff] using this
          go_wp2_with fail
          go_quiet (fail)
          go_wp2_with fail
          exact ⟨⟨j + 1, by omega, by go_num, fun k hk => (Nat.lt_succ_iff_lt_or_eq.1 hk).elim (HZ.out k) (fun e => by subst e; rw [HX.out, HY.out, hxy]), by repeat' (first | (with_reducible assumption) | (with_reducible exact Below.refl _ _) | (with_reducible refine Below.alloc ?_ ?_ _) | (with_reducible refine Bk.drewN_ ?_ _) | (with_reducible refine Below.drew ?_) | (with_reducible refine Below.setCell ?_ ?_ _) | go_size)⟩, by simp [intOf]; omega⟩
      · obtain rfl : n = j := by omega
        have hcd : l = l' := by
          apply List.ext_getElem HLL.out
          intro k h1 h2
          have := HZ.out k (by rw [HN.out]; exact h1)
          simpa [List.getD_eq_getElem?_getD, h1, h2] using this
        go_wp2_with fail
        go_ret
        exact ⟨ret_bool (by rw [HR.out]; simp [hcd]), by go_grown⟩
  · have hnn : ((l.length : Int) != (l'.length : Int)) = true := by simp; omega
    have hr : decide (l = l') = false := by rw [decide_eq_false_iff_not]; intro e; exact hll (by rw [e])
    rw [hr]
    clear hr HS HS'
    go_enter Tryd.func41, Tryd.ntmps41
    go_wp2_with fail
    go_ret
    exact ⟨rfl, by go_grown⟩

theorem c_EqA {w : World} {D D' : Nat → Prop} {v v' : Value} {l l' : List (Int × Bool)} (h : Sl w D 2 v l.length (actCells l)) (h' : Sl w D' 2 v' l'.length (actCells l')) (hD : ∀ k, D k → k < w.heap.size) (hD' : ∀ k, D' k → k < w.heap.size) (hmax : l.length ≤ 17592186044400) (hmax' : l'.length ≤ 17592186044400) :
    Calls Tryd.prog 44 #[v, v'] w fun e w' => e = .returned (.bool (decide (l = l'))) ∧ Below w.heap.size w w' := by
  have HS := Lib.hid h; have HS' := Lib.hid h'
  obtain ⟨A, cap, rfl, _⟩ := h
  obtain ⟨A', cap', rfl, _⟩ := h'
  by_cases hll : l.length = l'.length
  · have hnn : ((l.length : Int) != (l.length : Int)) = false := by simp
    obtain ⟨n, hn⟩ : ∃ n, n = l.length := ⟨_, rfl⟩
    obtain ⟨r, hr⟩ : ∃ r, r = decide (l = l') := ⟨_, rfl⟩
    rw [← hr]
    rw [← hll]
    rw [← hn] at hnn hmax ⊢
    have HN := Lib.hid hn; have HR := Lib.hid hr; have HLL := Lib.hid hll
    clear hn hr hll hmax'
    go_enter Tryd.func44, Tryd.ntmps44
    go_wp2_with fail
    go_loopw [13] (fun v13 wr => ∃ i : Nat, i ≤ n ∧ v13 = .int .i64 i ∧ (∀ k, k < i → l.getD k (0, false) = l'.getD k (0, false)) ∧ Below w.heap.size w wr) (fun i _ => n - (intOf i).toNat)
    case atStart => exact ⟨0, Nat.zero_le _, rfl, fun k hk => absurd hk (Nat.not_lt_zero _), by go_grown⟩
    case round =>
      obtain ⟨j, hi, rfl, hz, hB⟩ := hrel
      have HZ := Lib.hid hz; clear hz
      by_cases hlt' : j < n
      · have hlt : j < l.length := HN.out ▸ hlt'
        have hll := HLL.out
        obtain ⟨bx, ox, cpx, ex, hdx, hcx⟩ := Sl.some_ HS.out (by omega)
        obtain ⟨by', oy, cpy, ey, hdy, hcy⟩ := Sl.some_ HS'.out (by omega)
        obtain ⟨rfl, -, -⟩ : A = some ⟨bx, ox, none⟩ ∧ True ∧ True := ⟨by injection ex, trivial, trivial⟩
        obtain ⟨rfl, -, -⟩ : A' = some ⟨by', oy, none⟩ ∧ True ∧ True := ⟨by injection ey, trivial, trivial⟩
        obtain ⟨gx0, gx1⟩ := actCells_get l j hlt
        obtain ⟨gy0, gy1⟩ := actCells_get l' j (hll ▸ hlt)
        have cx := (hB.cell (p := ⟨bx, ox + j * 2, none⟩) (hD _ hdx)).trans (hcx _ _ gx0)
        have cx1 := (hB.cell (p := ⟨bx, ox + (j * 2 + 1), none⟩) (hD _ hdx)).trans (hcx _ _ gx1)
        have cy := (hB.cell (p := ⟨by', oy + j * 2, none⟩) (hD' _ hdy)).trans (hcy _ _ gy0)
        have cy1 := (hB.cell (p := ⟨by', oy + (j * 2 + 1), none⟩) (hD' _ hdy)).trans (hcy _ _ gy1)
        rw [← Nat.add_assoc] at cx1 cy1
        clear gx0 gx1 gy0 gy1
        clear hcx hcy ex ey hll hlt
        generalize hx : l.getD j (0, false) = x at *
        generalize hy : l'.getD j (0, false) = y at *
        have HX := Lib.hid hx; have HY := Lib.hid hy; clear hx hy
        have hneq := fun W => neq_act W x.1 y.1 x.2 y.2
        obtain ⟨z, hv⟩ : ∃ z, (!decide ((x.1, x.2) = (y.1, y.2))) = z := ⟨_, rfl⟩
        simp only [hv] at hneq
        have HV := Lib.hid hv; clear hv
        have hbx : bx < wr.heap.size := by have := hB.size; have := hD _ hdx; omega
        have hby : by' < wr.heap.size := by have := hB.size; have := hD' _ hdy; omega
        go_wp2_with fail
        go_quiet (fail)
        cases z with
        | true =>
          go_wp2_with fail
          go_ret
          refine ⟨ret_bool ?_, by repeat' (first | (with_reducible assumption) | (with_reducible exact Below.refl _ _) | (with_reducible refine Below.alloc ?_ ?_ _) | (with_reducible refine Bk.drewN_ ?_ _) | (with_reducible refine Below.drew ?_) | (with_reducible refine Below.setCell ?_ ?_ _) | go_size)⟩
          rw [HR.out]
          symm
          rw [decide_eq_false_iff_not]
          intro e
          have := HV.out
          have hxy : x = y := by rw [← HX.out, ← HY.out, e]
          subst hxy
          simp at this
        | false =>
          have hxy : x = y := by
            have := HV.out
            simpa [Prod.ext_iff] using this
          go_wp2_with fail
          exact ⟨⟨j + 1, by omega, by go_num, fun k hk => (Nat.lt_succ_iff_lt_or_eq.1 hk).elim (HZ.out k) (fun e => by subst e; rw [HX.out, HY.out, hxy]), by repeat' (first | (with_reducible assumption) | (with_reducible exact Below.refl _ _) | (with_reducible refine Below.alloc ?_ ?_ _) | (with_reducible refine Bk.drewN_ ?_ _) | (with_reducible refine Below.drew ?_) | (with_reducible refine Below.setCell ?_ ?_ _) | go_size)⟩, by simp [intOf]; omega⟩
      · obtain rfl : n = j := by omega
        have hcd : l = l' := by
          apply List.ext_getElem HLL.out
          intro k h1 h2
          have := HZ.out k (by rw [HN.out]; exact h1)
          simpa [List.getD_eq_getElem?_getD, h1, h2] using this
        go_wp2_with fail
        go_ret
        exact ⟨ret_bool (by rw [HR.out]; simp [hcd]), by go_grown⟩
  · have hnn : ((l.length : Int) != (l'.length : Int)) = true := by simp; omega
    have hr : decide (l = l') = false := by rw [decide_eq_false_iff_not]; intro e; exact hll (by rw [e])
    rw [hr]
    clear hr HS HS'
    go_enter Tryd.func44, Tryd.ntmps44
    go_wp2_with fail
    go_ret
    exact ⟨rfl, by go_grown⟩

end Go.Proofs.YtbijhlgdilkopaaDoor

/- slices.EqualFunc at lists of stacks. -/
set_option maxRecDepth 100000
set_option maxHeartbeats 8000000
set_option linter.unusedVariables false
namespace Go.Proofs.YtbijhlgdilkopaaDoor
open Go.RowKit Bk

theorem c_Eq1 {w : World} {D D' : Nat → Prop} {v v' : Value} {l l' : List Int} (h : Sl w D 1 v l.length (intCells l)) (h' : Sl w D' 1 v' l'.length (intCells l')) (hD : ∀ k, D k → k < w.heap.size) (hD' : ∀ k, D' k → k < w.heap.size) (hmax : l.length ≤ 17592186044400) (hmax' : l'.length ≤ 17592186044400) :
    Calls Tryd.prog 43 #[v, v'] w fun e w' => e = .returned (.bool (decide (l = l'))) ∧ Below w.heap.size w w' := by
  have HS := Lib.hid h; have HS' := Lib.hid h'
  obtain ⟨r, hr⟩ : ∃ r, r = decide (l = l') := ⟨_, rfl⟩
  rw [← hr]
  have HR := Lib.hid hr
  clear hr h h'
  go_enter Tryd.func43, Tryd.ntmps43
  go_wp2_with fail
  refine (c_EqI HS.out HS'.out hD hD' hmax hmax').mono ?_
  rw [← HR.out]
  rintro e w2 ⟨rfl, hb2⟩
  go_wp2_with fail
  go_ret
  exact ⟨rfl, hb2⟩

theorem c_EqF {w : World} {D D' : Nat → Prop} {v v' : Value} {sv sv' : List Value} {ss ss' : List (List Int)} (h : Sl w D 1 v ss.length sv) (h' : Sl w D' 1 v' ss'.length sv') (hs : SvRd w D sv ss) (hs' : SvRd w D' sv' ss') (hD : ∀ k, D k → k < w.heap.size) (hD' : ∀ k, D' k → k < w.heap.size)
    (hmax : ss.length ≤ 17592186044400) (hmax' : ss'.length ≤ 17592186044400) (hl : ∀ l ∈ ss, l.length ≤ 17592186044400) (hl' : ∀ l ∈ ss', l.length ≤ 17592186044400) :
    Calls Tryd.prog 42 #[v, v', .func (.func 43) #[] #[]] w fun e w' => e = .returned (.bool (decide (ss = ss'))) ∧ Below w.heap.size w w' := by
  have HS := Lib.hid h; have HS' := Lib.hid h'; have HV := Lib.hid hs; have HV' := Lib.hid hs'; have HL := Lib.hid hl; have HL' := Lib.hid hl'
  clear hs hs' hl hl'
  obtain ⟨A, cap, rfl, _⟩ := h
  obtain ⟨A', cap', rfl, _⟩ := h'
  by_cases hll : ss.length = ss'.length
  · have hnn : ((ss.length : Int) != (ss.length : Int)) = false := by simp
    obtain ⟨n, hn⟩ : ∃ n, n = ss.length := ⟨_, rfl⟩
    obtain ⟨r, hr⟩ : ∃ r, r = decide (ss = ss') := ⟨_, rfl⟩
    rw [← hr]
    rw [← hll]
    rw [← hn] at hnn hmax ⊢
    have HN := Lib.hid hn; have HR := Lib.hid hr; have HLL := Lib.hid hll
    clear hn hr hll hmax'
    go_enter Tryd.func42, Tryd.ntmps42
    go_wp2_with fail
    go_loopw [17] (fun v13 wr => ∃ i : Nat, i ≤ n ∧ v13 = .int .i64 i ∧ (∀ k, k < i → ss.getD k [] = ss'.getD k []) ∧ Below w.heap.size w wr) (fun i _ => n - (intOf i).toNat)
    case atStart => exact ⟨0, Nat.zero_le _, rfl, fun k hk => absurd hk (Nat.not_lt_zero _), by go_grown⟩
    case round =>
      obtain ⟨j, hi, rfl, hz, hB⟩ := hrel
      have HZ := Lib.hid hz; clear hz
      by_cases hlt' : j < n
      · have hlt : j < ss.length := HN.out ▸ hlt'
        have hlt2 : j < ss'.length := HLL.out ▸ hlt
        obtain ⟨bx, ox, cpx, ex, hdx, hcx⟩ := Sl.some_ HS.out (by omega)
        obtain ⟨by', oy, cpy, ey, hdy, hcy⟩ := Sl.some_ HS'.out (by omega)
        obtain ⟨rfl, -, -⟩ : A = some ⟨bx, ox, none⟩ ∧ True ∧ True := ⟨by injection ex, trivial, trivial⟩
        obtain ⟨rfl, -, -⟩ : A' = some ⟨by', oy, none⟩ ∧ True ∧ True := ⟨by injection ey, trivial, trivial⟩
        obtain ⟨ux, hux, slx⟩ := HV.out.2 j hlt
        obtain ⟨uy, huy, sly⟩ := HV'.out.2 j hlt2
        have cx := (hB.cell (p := ⟨bx, ox + j, none⟩) (hD _ hdx)).trans (hcx _ _ hux)
        have cy := (hB.cell (p := ⟨by', oy + j, none⟩) (hD' _ hdy)).trans (hcy _ _ huy)
        have HSX := Lib.hid (slx.keep (fun b o hd => hB.cell (p := ⟨b, o, none⟩) (hD _ hd)) (D' := D) (fun _ h => h))
        have HSY := Lib.hid (sly.keep (fun b o hd => hB.cell (p := ⟨b, o, none⟩) (hD' _ hd)) (D' := D') (fun _ h => h))
        have hlx := HL.out _ (getD_mem hlt)
        have hly := HL'.out _ (getD_mem hlt2)
        clear hcx hcy ex ey hlt hlt2 hux huy
        generalize hx : ss.getD j [] = x at *
        generalize hy : ss'.getD j [] = y at *
        have HX := Lib.hid hx; have HY := Lib.hid hy; clear hx hy
        obtain ⟨Ax, cpx', rfl, _⟩ := slx
        obtain ⟨Ay, cpy', rfl, _⟩ := sly
        obtain ⟨z, hv⟩ : ∃ z, decide (x = y) = z := ⟨_, rfl⟩
        have HZZ := Lib.hid hv
        clear hv
        have hbx : bx < wr.heap.size := by have := hB.size; have := hD _ hdx; omega
        have hby : by' < wr.heap.size := by have := hB.size; have := hD' _ hdy; omega
        go_wp2_with fail
        refine (c_Eq1 HSX.out HSY.out (fun k hk => Nat.lt_of_lt_of_le (hD k hk) hB.size) (fun k hk => Nat.lt_of_lt_of_le (hD' k hk) hB.size) hlx hly).mono ?_
        rw [HZZ.out]
        rintro e w2 ⟨rfl, hb2⟩
        have hB2 : Below w.heap.size w w2 := hB.next hb2
        clear hb2
        cases z with
        | false =>
          go_wp2_with fail
          go_ret
          refine ⟨ret_bool ?_, hB2⟩
          rw [HR.out]
          symm
          rw [decide_eq_false_iff_not]
          intro e
          have hxy : x = y := by rw [← HX.out, ← HY.out, e]
          exact of_decide_eq_false HZZ.out hxy
        | true =>
          have hxy : x = y := of_decide_eq_true HZZ.out
          go_wp2_with fail
          exact ⟨⟨j + 1, by omega, by go_num, fun k hk => (Nat.lt_succ_iff_lt_or_eq.1 hk).elim (HZ.out k) (fun e => by subst e; rw [HX.out, HY.out, hxy]), hB2⟩, by simp [intOf]; omega⟩
      · obtain rfl : n = j := by omega
        have hcd : ss = ss' := by
          apply List.ext_getElem HLL.out
          intro k h1 h2
          have := HZ.out k (by rw [HN.out]; exact h1)
          simpa [List.getD_eq_getElem?_getD, h1, h2] using this
        go_wp2_with fail
        go_ret
        exact ⟨ret_bool (by rw [HR.out]; simp [hcd]), by go_grown⟩
  · have hnn : ((ss.length : Int) != (ss'.length : Int)) = true := by simp; omega
    have hr : decide (ss = ss') = false := by rw [decide_eq_false_iff_not]; intro e; exact hll (by rw [e])
    rw [hr]
    clear hr HS HS'
    go_enter Tryd.func42, Tryd.ntmps42
    go_wp2_with fail
    go_ret
    exact ⟨rfl, by go_grown⟩
end Go.Proofs.YtbijhlgdilkopaaDoor

/- cpu.Equal on two places of one machine: true. -/
set_option maxRecDepth 100000
set_option maxHeartbeats 8000000
set_option linter.unusedVariables false
namespace Go.Proofs.YtbijhlgdilkopaaDoor
open Go.RowKit Bk
theorem c_EqIT {w : World} {D D' : Nat → Prop} {v v' : Value} {l : List Int} (h : Sl w D 1 v l.length (intCells l)) (h' : Sl w D' 1 v' l.length (intCells l)) (hD : ∀ k, D k → k < w.heap.size) (hD' : ∀ k, D' k → k < w.heap.size) (hmax : l.length ≤ 17592186044400) :
    Calls Tryd.prog 41 #[v, v'] w fun e w' => e = .returned (.bool true) ∧ Below w.heap.size w w' := by simpa using c_EqI h h' hD hD' hmax hmax
theorem c_EqAT {w : World} {D D' : Nat → Prop} {v v' : Value} {l : List (Int × Bool)} (h : Sl w D 2 v l.length (actCells l)) (h' : Sl w D' 2 v' l.length (actCells l)) (hD : ∀ k, D k → k < w.heap.size) (hD' : ∀ k, D' k → k < w.heap.size) (hmax : l.length ≤ 17592186044400) :
    Calls Tryd.prog 44 #[v, v'] w fun e w' => e = .returned (.bool true) ∧ Below w.heap.size w w' := by simpa using c_EqA h h' hD hD' hmax hmax
theorem c_EqFT {w : World} {D D' : Nat → Prop} {v v' : Value} {sv sv' : List Value} {ss : List (List Int)} (h : Sl w D 1 v ss.length sv) (h' : Sl w D' 1 v' ss.length sv') (hs : SvRd w D sv ss) (hs' : SvRd w D' sv' ss) (hD : ∀ k, D k → k < w.heap.size) (hD' : ∀ k, D' k → k < w.heap.size)
    (hmax : ss.length ≤ 17592186044400) (hl : ∀ l ∈ ss, l.length ≤ 17592186044400) :
    Calls Tryd.prog 42 #[v, v', .func (.func 43) #[] #[]] w fun e w' => e = .returned (.bool true) ∧ Below w.heap.size w w' := by simpa using c_EqF h h' hs hs' hD hD' hmax hmax hl hl
theorem c_EqualT {w : World} {D D' : Nat → Prop} {b off b' off' : Nat} {M : Mach} {vm vs vc vi vo vm' vs' vc' vi' vo' : Value} {sv sv' : List Value} (h : MRd w D b off M vm vs vc vi vo sv) (h' : MRd w D' b' off' M vm' vs' vc' vi' vo' sv') (hB : MBd M) :
    Calls Tryd.prog 20 #[.pointer (some ⟨b, off, none⟩), .pointer (some ⟨b', off', none⟩)] w fun e w' => e = .returned (.bool true) ∧ Below w.heap.size w w' := by
  have HM := Lib.hid h; have HM' := Lib.hid h'; have HB := Lib.hid hB
  have hrl := h.rl
  have hlt := h.lt; have hlt' := h'.lt
  have hRR : ∀ W : World, (binOp .eql 48 (.agg (intCells M.r).toArray) (.agg (intCells M.r).toArray)).run Tryd.prog W = .ok (.bool true) W := fun W => by
    rw [eq_regs hrl hrl, decide_eq_true rfl]
  have b1 : M.m.length ≤ 17592186044400 := by have := HB.out.ml; omega
  have b2 : M.s.length ≤ 17592186044400 := by have := HB.out.sl; omega
  have b3 : ∀ l ∈ M.s, l.length ≤ 17592186044400 := fun l hl => by have := HB.out.st l hl; omega
  have b4 : M.calls.length ≤ 17592186044400 := by have := HB.out.cl; omega
  have b5 : M.inp.length ≤ 17592186044400 := by have := HB.out.il; omega
  have b6 : M.out.length ≤ 17592186044400 := by have := HB.out.ol; omega
  have B1 := Lib.hid b1; have B2 := Lib.hid b2; have B3 := Lib.hid b3; have B4 := Lib.hid b4; have B5 := Lib.hid b5; have B6 := Lib.hid b6
  clear h h' hB b1 b2 b3 b4 b5 b6 hrl
  go_enter Tryd.func20, Tryd.ntmps20
  go_wp2_with fail
  simp only [List.append_eq, List.cons_append, List.nil_append]
  refine wp_region_growF (by kernel_rfl) (by kernel_rfl) ?_; intro W hW; have hneW : Nonempty (Grw W) := ⟨⟨W, Below.refl _ _⟩⟩; have HBz := Lib.hid (fun z => Below.next (show Below w.heap.size w W by (rw [hW]; exact (by go_grown))) (grow_below W z))
  have g0 := fun z => (HM.out.next (HBz.out z)).c0; have i0 := fun z => (HM'.out.next (HBz.out z)).c0
  have g1 := fun z => (HM.out.next (HBz.out z)).c1; have i1 := fun z => (HM'.out.next (HBz.out z)).c1
  have g18 := fun z => (HM.out.next (HBz.out z)).c18; have i18 := fun z => (HM'.out.next (HBz.out z)).c18
  have g19 := fun z => (HM.out.next (HBz.out z)).c19; have i19 := fun z => (HM'.out.next (HBz.out z)).c19
  have g20 := fun z => (HM.out.next (HBz.out z)).c20; have i20 := fun z => (HM'.out.next (HBz.out z)).c20
  have g21 := fun z => (HM.out.next (HBz.out z)).c21; have i21 := fun z => (HM'.out.next (HBz.out z)).c21
  have g22 := fun z => (HM.out.next (HBz.out z)).c22; have i22 := fun z => (HM'.out.next (HBz.out z)).c22
  have g23 := fun z => (HM.out.next (HBz.out z)).c23; have i23 := fun z => (HM'.out.next (HBz.out z)).c23
  have g24 := fun z => (HM.out.next (HBz.out z)).c24; have i24 := fun z => (HM'.out.next (HBz.out z)).c24
  have gR := fun z => load_regs (HM.out.next (HBz.out z)); have iR := fun z => load_regs (HM'.out.next (HBz.out z))
  have HW := Lib.hid hW; clear hW
  repeat (first | (go_big_quiet_want; refine quiet_loadG 48 rfl rfl (gR) ?_; go_big_quiet_on; simp only [Act.put, Bk.PU]) | (go_big_quiet_want; refine quiet_loadG 48 rfl rfl (iR) ?_; go_big_quiet_on; simp only [Act.put, Bk.PU]) | go_big_quiet_step ((first | (go_at_call 41; with_reducible exact quiet_grow (c_EqIT (HM.out.next (HBz.out _)).m (HM'.out.next (HBz.out _)).m (HM.out.next (HBz.out _)).d (HM'.out.next (HBz.out _)).d B1.out)) | (go_at_call 42; with_reducible exact quiet_grow (c_EqFT (HM.out.next (HBz.out _)).s (HM'.out.next (HBz.out _)).s (HM.out.next (HBz.out _)).ls (HM'.out.next (HBz.out _)).ls (HM.out.next (HBz.out _)).d (HM'.out.next (HBz.out _)).d B2.out B3.out)) | (go_at_call 44; with_reducible exact quiet_grow (c_EqAT (HM.out.next (HBz.out _)).lc (HM'.out.next (HBz.out _)).lc (HM.out.next (HBz.out _)).d (HM'.out.next (HBz.out _)).d B4.out)) | (go_at_call 41; with_reducible exact quiet_grow (c_EqIT (HM.out.next (HBz.out _)).li (HM'.out.next (HBz.out _)).li (HM.out.next (HBz.out _)).d (HM'.out.next (HBz.out _)).d B5.out)) | (go_at_call 41; with_reducible exact quiet_grow (c_EqIT (HM.out.next (HBz.out _)).lo (HM'.out.next (HBz.out _)).lo (HM.out.next (HBz.out _)).d (HM'.out.next (HBz.out _)).d B6.out)))))
  clear g0 i0 g1 i1 g18 i18 g19 i19 g20 i20 g21 i21 g22 i22 g23 i23 g24 i24 gR iR
  refine wpQuiet_nil ?_; rintro _ ⟨z, rfl⟩; have hb1 := grow_below W z; have hB1 := HBz.out z; generalize grow W z = w1 at hb1 hB1 ⊢; have hW := HW.out; clear HW HBz hneW; subst hW; obtain ⟨hc1, hf1⟩ := bcell hb1; obtain ⟨hcA1, hfA1⟩ := bcell hB1; have HB1 := Lib.hid hb1; clear hb1
  go_wp2_with fail
  go_ret
  exact ⟨rfl, by go_grown⟩
end Go.Proofs.YtbijhlgdilkopaaDoor
