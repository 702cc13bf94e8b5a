/- The walks of codes, small, Removed. -/
import Derived.Test.YtfobnkgfbdmakaaDoorOptimize
set_option linter.unusedVariables false
namespace Go.Proofs.YtfobnkgfbdmakaaDoor
open Go.RowKit Bk

theorem neq_ins (W : World) (op a b c d op' a' b' c' d' : Int) :
    (binOp .neq 23 (.agg #[.int .u8 op, .int .i64 a, .int .i64 b, .int .i64 c, .int .i64 d]) (.agg #[.int .u8 op', .int .i64 a', .int .i64 b', .int .i64 c', .int .i64 d'])).run Tryd.prog W =
      .ok (.bool (!decide ((⟨op, a, b, c, d⟩ : Ins) = ⟨op', a', b', c', d'⟩))) W := by
  by_cases e0 : op = op'
  · by_cases e1 : a = a'
    · by_cases e2 : b = b'
      · by_cases e3 : c = c'
        · by_cases e4 : d = d'
          · simp [go_sem, e0, e1, e2, e3, e4]
          · simp [go_sem, e0, e1, e2, e3, e4]
        · simp [go_sem, e0, e1, e2, e3]
      · simp [go_sem, e0, e1, e2]
    · simp [go_sem, e0, e1]
  · simp [go_sem, e0]

set_option maxRecDepth 100000 in
set_option maxHeartbeats 4000000 in
theorem codes.some_ (b off n cap b' off' cap' : Nat) (c d : Prg) (w : World) (hn0 : 0 < n) (hmax : n ≤ 65536) {D D' : Nat → Prop} (hD : ∀ k, D k → k < w.heap.size) (hD' : ∀ k, D' k → k < w.heap.size)
    (hC : Rd w D 5 (some ⟨b, off, none⟩) n (codeCells c)) (hC' : Rd w D' 5 (some ⟨b', off', none⟩) n (codeCells d)) :
    Calls Tryd.prog 18 #[.slice (some ⟨b, off, none⟩) n cap, .slice (some ⟨b', off', none⟩) n cap'] w fun e w' =>
      e = .returned (.bool (decide (c = d))) ∧ Below w.heap.size w w' := by
  have hn : n = c.length := by have := hC.1; rw [codeCells_length] at this; omega
  have hn' : n = d.length := by have := hC'.1; rw [codeCells_length] at this; omega
  have hnn : ((n : Int) != (n : Int)) = false := by simp
  have HN := Lib.hid hn; have HN' := Lib.hid hn'; have HC := Lib.hid hC; have HC' := Lib.hid hC'
  clear hn hn' hC hC'
  go_enter Tryd.func18, Tryd.ntmps18
  go_wp2_with fail
  go_loopw [13] (fun v13 wr => ∃ i : Nat, i ≤ n ∧ v13 = .int .i64 i ∧ (∀ k, k < i → c.getD k default = d.getD k default) ∧ Below w.heap.size w wr) (fun i _ => n - (intOf i).toNat)
  case atStart => exact ⟨0, Nat.zero_le _, rfl, fun k hk => absurd hk (Nat.not_lt_zero _), by repeat' (first | (with_reducible assumption) | (with_reducible exact Below.refl _ _) | (with_reducible refine Below.alloc ?_ ?_ _) | (with_reducible refine Bk.drewN_ ?_ _) | (with_reducible refine Below.drew ?_) | (with_reducible refine Below.setCell ?_ ?_ _) | go_size)⟩
  case round =>
    obtain ⟨i, hi, rfl, hz, hB⟩ := hrel
    have HZ := Lib.hid hz; clear hz
    by_cases hlt : i < n
    · obtain ⟨x0, x1, x2, x3, x4⟩ := (HC.out.below hB hD).insAt (k := i) (HN.out ▸ hlt)
      obtain ⟨y0, y1, y2, y3, y4⟩ := (HC'.out.below hB hD').insAt (k := i) (HN'.out ▸ hlt)
      generalize hx : c.getD i default = x at *
      generalize hy : d.getD i default = y at *
      have HX := Lib.hid hx; have HY := Lib.hid hy; clear hx hy
      have hneq := fun W => neq_ins W x.op x.a x.b x.c x.d y.op y.a y.b y.c y.d
      obtain ⟨v, hv⟩ : ∃ v, (!decide ((⟨x.op, x.a, x.b, x.c, x.d⟩ : Ins) = ⟨y.op, y.a, y.b, y.c, y.d⟩)) = v := ⟨_, rfl⟩
      simp only [hv] at hneq
      have HV := Lib.hid hv; clear hv
      go_wp2_with fail
      go_quiet (fail)
      cases v with
      | true =>
        go_wp2_with fail
        go_ret
        refine ⟨ret_bool ?_, by repeat' (first | (with_reducible assumption) | (with_reducible exact Below.refl _ _) | (with_reducible refine Below.alloc ?_ ?_ _) | (with_reducible refine Bk.drewN_ ?_ _) | (with_reducible refine Below.drew ?_) | (with_reducible refine Below.setCell ?_ ?_ _) | go_size)⟩
        symm
        rw [decide_eq_false_iff_not]
        intro e
        have := HV.out
        have hxy : x = y := by rw [← HX.out, ← HY.out, e]
        subst hxy
        simp at this
      | false =>
        have hxy : x = y := by
          have := HV.out
          simp at this
          cases x; cases y; simp_all
        go_wp2_with fail
        exact ⟨⟨i + 1, by omega, by go_num, fun k hk => (Nat.lt_succ_iff_lt_or_eq.1 hk).elim (HZ.out k) (fun e => by subst e; rw [HX.out, HY.out, hxy]), by repeat' (first | (with_reducible assumption) | (with_reducible exact Below.refl _ _) | (with_reducible refine Below.alloc ?_ ?_ _) | (with_reducible refine Bk.drewN_ ?_ _) | (with_reducible refine Below.drew ?_) | (with_reducible refine Below.setCell ?_ ?_ _) | go_size)⟩, by simp [intOf]; omega⟩
    · obtain rfl : n = i := by omega
      have hcd : c = d := by
        apply List.ext_getElem (by rw [← HN.out, ← HN'.out])
        intro k h1 h2
        have := HZ.out k (by rw [HN.out]; exact h1)
        simpa [List.getD_eq_getElem?_getD, h1, h2] using this
      have HCD := Lib.hid hcd; clear hcd
      go_wp2_with fail
      go_ret
      exact ⟨ret_bool (by simp [HCD.out]), hB⟩

theorem codes.ne_ (A A' : Option Addr) (n cap n' cap' : Nat) (w : World) (h : n ≠ n') :
    Calls Tryd.prog 18 #[.slice A n cap, .slice A' n' cap'] w fun e w' => e = .returned (.bool false) ∧ Below w.heap.size w w' := by
  have hnn : ((n : Int) != (n' : Int)) = true := by simp; omega
  go_enter Tryd.func18, Tryd.ntmps18
  go_wp2_with fail
  go_ret
  exact ⟨rfl, by repeat' (first | (with_reducible assumption) | (with_reducible exact Below.refl _ _) | (with_reducible refine Below.alloc ?_ ?_ _) | (with_reducible refine Bk.drewN_ ?_ _) | (with_reducible refine Below.drew ?_) | (with_reducible refine Below.setCell ?_ ?_ _) | go_size)⟩
theorem codes.none_ (A A' : Option Addr) (cap cap' : Nat) (w : World) :
    Calls Tryd.prog 18 #[.slice A 0 cap, .slice A' 0 cap'] w fun e w' => e = .returned (.bool true) ∧ Below w.heap.size w w' := by
  go_enter Tryd.func18, Tryd.ntmps18
  go_wp2_with fail
  go_rounds 1
  go_ret
  exact ⟨rfl, by repeat' (first | (with_reducible assumption) | (with_reducible exact Below.refl _ _) | (with_reducible refine Below.alloc ?_ ?_ _) | (with_reducible refine Bk.drewN_ ?_ _) | (with_reducible refine Below.drew ?_) | (with_reducible refine Below.setCell ?_ ?_ _) | go_size)⟩

theorem c_codes (A A' : Option Addr) (n cap n' cap' : Nat) (c d : Prg) (w : World) (hmax : n ≤ 65536) {D D' : Nat → Prop} (hD : ∀ k, D k → k < w.heap.size) (hD' : ∀ k, D' k → k < w.heap.size)
    (hC : Rd w D 5 A n (codeCells c)) (hC' : Rd w D' 5 A' n' (codeCells d)) :
    Calls Tryd.prog 18 #[.slice A n cap, .slice A' n' cap'] w fun e w' =>
      e = .returned (.bool (decide (c = d))) ∧ Below w.heap.size w w' := by
  have hn : n = c.length := by have := hC.1; rw [codeCells_length] at this; omega
  have hn' : n' = d.length := by have := hC'.1; rw [codeCells_length] at this; omega
  by_cases h : n = n'
  · subst h
    rcases Nat.eq_zero_or_pos n with h0 | h0
    · have e1 : c = [] := List.eq_nil_of_length_eq_zero (by omega)
      have e2 : d = [] := List.eq_nil_of_length_eq_zero (by omega)
      subst h0
      have : decide (c = d) = true := by simp [e1, e2]
      rw [this]
      exact codes.none_ A A' cap cap' w
    · obtain ⟨b, off, rfl, _, _⟩ := hC.2 h0
      obtain ⟨b', off', rfl, _, _⟩ := hC'.2 h0
      exact codes.some_ b off n cap b' off' cap' c d w h0 hmax hD hD' hC hC'
  · have : decide (c = d) = false := by
      rw [decide_eq_false_iff_not]; intro e; subst e; omega
    rw [this]
    exact codes.ne_ A A' n cap n' cap' w h

set_option maxRecDepth 100000 in
theorem c_small (A : Option Addr) (n cap : Nat) (im : Img) (w : World) (hC : Rd w (· < w.heap.size) 5 A n (codeCells im.code)) (hw : CodeWf im.code) (hTab : TableAt w) :
    Calls Tryd.prog 14 #[.agg #[.slice A n cap, .int .i64 im.mem, .int .i64 im.stacks]] w fun e w' =>
      e = .returned (.bool (decide (n ≤ 90) && im.valid)) ∧ Below w.heap.size w w' := by
  obtain ⟨v, hv⟩ : ∃ v, im.valid = v := ⟨_, rfl⟩
  rw [hv]
  have HV := Lib.hid hv; have HC := Lib.hid hC; have HT := Lib.hid hTab; clear hv hC hTab
  by_cases h : n ≤ 90
  · have h' : decide ((n : Int) ≤ 90) = true := by simp; omega
    go_enter Tryd.func14, Tryd.ntmps14
    go_wp2_with (go_at_call 21; ((with_reducible refine (c_imValid' _ _ _ im HV.out _ (HC.out.next (by repeat' (first | (with_reducible assumption) | (with_reducible exact Below.refl _ _) | (with_reducible refine Below.alloc ?_ ?_ _) | (with_reducible refine Bk.drewN_ ?_ _) | (with_reducible refine Below.drew ?_) | (with_reducible refine Below.setCell ?_ ?_ _) | go_size))) hw (HT.out.next (by repeat' (first | (with_reducible assumption) | (with_reducible exact Below.refl _ _) | (with_reducible refine Below.alloc ?_ ?_ _) | (with_reducible refine Bk.drewN_ ?_ _) | (with_reducible refine Below.drew ?_) | (with_reducible refine Below.setCell ?_ ?_ _) | go_size)))).mono ?_); rintro e w1 ⟨rfl, hb1⟩; (try (have hs0 : w.heap.size < w1.heap.size := (by have := hb1.size; (try simp at this); omega))); (try (have hs1 : w.heap.size + 1 < w1.heap.size := (by have := hb1.size; (try simp at this); omega))); have hB1 : Below w.heap.size w w1 := Below.next (by repeat' (first | (with_reducible assumption) | (with_reducible exact Below.refl _ _) | (with_reducible refine Below.alloc ?_ ?_ _) | (with_reducible refine Bk.drewN_ ?_ _) | (with_reducible refine Below.drew ?_) | (with_reducible refine Below.setCell ?_ ?_ _) | go_size)) hb1; obtain ⟨hc1, hf1⟩ := bcell hb1; obtain ⟨hcA1, hfA1⟩ := bcell hB1; have HB1 := Lib.hid hb1; clear hb1))
    all_goals (go_ret; exact ⟨ret_bool (by simp_all), by repeat' (first | (with_reducible assumption) | (with_reducible exact Below.refl _ _) | (with_reducible refine Below.alloc ?_ ?_ _) | (with_reducible refine Bk.drewN_ ?_ _) | (with_reducible refine Below.drew ?_) | (with_reducible refine Below.setCell ?_ ?_ _) | go_size)⟩)
  · have h' : decide ((n : Int) ≤ 90) = false := by simp; omega
    go_enter Tryd.func14, Tryd.ntmps14
    go_wp2_with fail
    all_goals (go_ret; exact ⟨ret_bool (by simp [h]), by repeat' (first | (with_reducible assumption) | (with_reducible exact Below.refl _ _) | (with_reducible refine Below.alloc ?_ ?_ _) | (with_reducible refine Bk.drewN_ ?_ _) | (with_reducible refine Below.drew ?_) | (with_reducible refine Below.setCell ?_ ?_ _) | go_size)⟩)

set_option maxRecDepth 100000 in
set_option maxHeartbeats 2000000 in
theorem c_Removed (A : Option Addr) (n cap : Nat) (im : Img) (w : World) (hmax : n ≤ 65536) (hC : Rd w (· < w.heap.size) 5 A n (codeCells im.code)) (hw : CodeWf im.code) (hTab : TableAt w) :
    Calls Tryd.prog 20 #[.agg #[.slice A n cap, .int .i64 im.mem, .int .i64 im.stacks]] w fun e w' =>
      e = .returned (.int .i64 (removed im)) ∧ Below w.heap.size w w' := by
  have hn : n = im.code.length := by have := hC.1; rw [codeCells_length] at this; omega
  have HN := Lib.hid hn; have HC := Lib.hid hC; have HT := Lib.hid hTab; clear hC hTab hn
  go_enter Tryd.func20, Tryd.ntmps20
  go_wp2_with fail
  refine (c_Optimize _ _ _ im _ (HC.out.next (by repeat' (first | (with_reducible assumption) | (with_reducible exact Below.refl _ _) | (with_reducible refine Below.alloc ?_ ?_ _) | (with_reducible refine Bk.drewN_ ?_ _) | (with_reducible refine Below.drew ?_) | (with_reducible refine Below.setCell ?_ ?_ _) | go_size))) hw (HT.out.next (by repeat' (first | (with_reducible assumption) | (with_reducible exact Below.refl _ _) | (with_reducible refine Below.alloc ?_ ?_ _) | (with_reducible refine Bk.drewN_ ?_ _) | (with_reducible refine Below.drew ?_) | (with_reducible refine Below.setCell ?_ ?_ _) | go_size)))).mono ?_
  rintro e w1 ⟨A', m, c', rfl, hR, hb1⟩
  have hB1 : Below w.heap.size w w1 := Below.next (by repeat' (first | (with_reducible assumption) | (with_reducible exact Below.refl _ _) | (with_reducible refine Below.alloc ?_ ?_ _) | (with_reducible refine Bk.drewN_ ?_ _) | (with_reducible refine Below.drew ?_) | (with_reducible refine Below.setCell ?_ ?_ _) | go_size)) hb1
  obtain ⟨hc1, hf1⟩ := bcell hb1
  have k0 : w1.cell? ⟨w.heap.size, 0, none⟩ = some (.slice A n cap) := by go_simp
  have hm : m = (optimize im).1.code.length := by have := hR.1; rw [codeCells_length] at this; omega
  have hz : w.heap.size < w1.heap.size := by have := hb1.size; simp at this; omega
  obtain ⟨oe, hoe⟩ : ∃ x, (optimize im).2 = x := ⟨_, rfl⟩
  rw [hoe]
  have hopt : (optimize im).2 = im.check.2 := by unfold optimize; split <;> simp_all
  have HM := Lib.hid hm; have HOE := Lib.hid (hopt.symm.trans hoe)
  clear hb1 hR hm hoe hc1 hf1 hopt
  by_cases h0 : oe = 0
  · subst h0
    have hrem : removed im = (n : Int) - m := by
      unfold removed; rw [if_pos HOE.out, HN.out, HM.out]
      have : (optimize im).1.code = optCode im.code := by unfold optimize; rw [if_pos HOE.out]
      rw [this]
    have hml : m ≤ n := by
      have : (optimize im).1.code = optCode im.code := by unfold optimize; rw [if_pos HOE.out]
      have h1 := HM.out; rw [this, optCode_length] at h1
      have := kept_length im.code; have := HN.out; omega
    have HRem := Lib.hid hrem; clear hrem
    go_wp2_with fail
    go_ret
    exact ⟨ret_int HRem.out.symm, by repeat' (first | (with_reducible assumption) | (with_reducible exact Below.refl _ _) | (with_reducible refine Below.alloc ?_ ?_ _) | (with_reducible refine Bk.drewN_ ?_ _) | (with_reducible refine Below.drew ?_) | (with_reducible refine Below.setCell ?_ ?_ _) | go_size)⟩
  · have h0' : (oe != 0) = true := by simpa using h0
    have hrem : removed im = 0 := by unfold removed; rw [if_neg (by rw [HOE.out]; exact h0)]
    have HRem := Lib.hid hrem; clear hrem
    go_wp2_with fail
    go_ret
    exact ⟨ret_int HRem.out.symm, by repeat' (first | (with_reducible assumption) | (with_reducible exact Below.refl _ _) | (with_reducible refine Below.alloc ?_ ?_ _) | (with_reducible refine Bk.drewN_ ?_ _) | (with_reducible refine Below.drew ?_) | (with_reducible refine Below.setCell ?_ ?_ _) | go_size)⟩
end Go.Proofs.YtfobnkgfbdmakaaDoor
