/- Several texts in one: Codes Awake SmallP. -/
import Derived.Test.YteenmpjjaheggaaDoorZOptimize
import Derived.Test.YteenmpjjaheggaaDoorBa
import Derived.Outline
set_option linter.unusedVariables false
set_option linter.unusedSimpArgs false
/- The walks of codes, small, Removed. -/
set_option maxRecDepth 100000
set_option maxHeartbeats 8000000
set_option linter.unusedVariables false
namespace Go.Proofs.YteenmpjjaheggaaDoor
open Go.RowKit Bk

theorem neq_ins (W : World) (op a b c d op' a' b' c' d' : Int) :
    (binOp .neq 68 (.agg #[.int .u8 op, .int .i64 a, .int .i64 b, .int .i64 c, .int .i64 d]) (.agg #[.int .u8 op', .int .i64 a', .int .i64 b', .int .i64 c', .int .i64 d'])).run Tryd.prog W =
      .ok (.bool (!decide ((⟨op, a, b, c, d⟩ : Ins) = ⟨op', a', b', c', d'⟩))) W := by
  by_cases e0 : op = op'
  · by_cases e1 : a = a'
    · by_cases e2 : b = b'
      · by_cases e3 : c = c'
        · by_cases e4 : d = d'
          · simp [go_sem, e0, e1, e2, e3, e4]
          · simp [go_sem, e0, e1, e2, e3, e4]
        · simp [go_sem, e0, e1, e2, e3]
      · simp [go_sem, e0, e1, e2]
    · simp [go_sem, e0, e1]
  · simp [go_sem, e0]

theorem c_small (A : Option Addr) (n cap : Nat) (im : Img) (w : World) (hC : Rd w (· < w.heap.size) 5 A n (codeCells im.code)) (hw : CodeWf im.code) (hTab : TableAt w) :
    Calls Tryd.prog 24 #[.agg #[.slice A n cap, .int .i64 im.mem, .int .i64 im.stacks]] w fun e w' =>
      e = .returned (.bool (decide (n ≤ 90) && im.valid)) ∧ Below w.heap.size w w' := by
  obtain ⟨v, hv⟩ : ∃ v, im.valid = v := ⟨_, rfl⟩
  rw [hv]
  have HV := Lib.hid hv; have HC := Lib.hid hC; have HT := Lib.hid hTab; clear hv hC hTab
  by_cases h : n ≤ 90
  · have h' : decide ((n : Int) ≤ 90) = true := by simp; omega
    go_enter Tryd.func24, Tryd.ntmps24
    go_wp2_with (go_at_call 49; ((with_reducible refine (c_imValid' _ _ _ im HV.out _ (HC.out.next (by go_grown)) hw (HT.out.next (by go_grown))).mono ?_); rintro e w1 ⟨rfl, hb1⟩; (try (have hs0 : w.heap.size < w1.heap.size := (by have := hb1.size; (try simp at this); omega))); (try (have hs1 : w.heap.size + 1 < w1.heap.size := (by have := hb1.size; (try simp at this); omega))); have hB1 : Below w.heap.size w w1 := Below.next (by go_grown) hb1; obtain ⟨hc1, hf1⟩ := bcell hb1; obtain ⟨hcA1, hfA1⟩ := bcell hB1; have HB1 := Lib.hid hb1; clear hb1))
    all_goals (go_ret; exact ⟨ret_bool (by simp_all), by go_grown⟩)
  · have h' : decide ((n : Int) ≤ 90) = false := by simp; omega
    go_enter Tryd.func24, Tryd.ntmps24
    go_wp2_with fail
    all_goals (go_ret; exact ⟨ret_bool (by simp [h]), by go_grown⟩)

end Go.Proofs.YteenmpjjaheggaaDoor

/- The walk of awake: the examples of the chapter hold. -/
set_option maxRecDepth 100000
set_option maxHeartbeats 8000000
set_option linter.unusedVariables false
namespace Go.Proofs.YteenmpjjaheggaaDoor
open Go.RowKit Bk

theorem Rd.new {w : World} {g n size : Nat} {cs : Array Value} {t : TypeId} (hg : g = w.heap.size) (h : cs.size = n * size) : Rd (w.alloc (.cells cs t)) (· < (w.alloc (.cells cs t)).heap.size) size (some ⟨g, 0, none⟩) n cs.toList := by
  subst hg
  refine ⟨by simpa using h, fun _ => ⟨_, _, rfl, by simp, fun j u hu => ?_⟩⟩
  have h := (Blk.new w t cs).cell j
  rw [Nat.zero_add, h]
  simpa using hu

theorem c_OptimizeL (A : Option Addr) (n cap : Nat) (code code' : Prg) (mem st mem' st' err : Int) (w : World) (hopt : optimize ⟨code, mem, st⟩ = (⟨code', mem', st'⟩, err)) (hC : Rd w (· < w.heap.size) 5 A n (codeCells code)) (hw : CodeWf code) (hTab : TableAt w) :
    Calls Tryd.prog 25 #[.agg #[.slice A n cap, .int .i64 mem, .int .i64 st]] w fun e w' =>
      ∃ A' m c, e = .returned (.tuple #[.agg #[.slice A' m c, .int .i64 mem', .int .i64 st'], .int .i64 err]) ∧
        Rd w' (fun b => w.heap.size ≤ b ∧ b < w'.heap.size) 5 A' m (codeCells code') ∧ Below w.heap.size w w' := by
  have := c_Optimize A n cap ⟨code, mem, st⟩ w hC hw hTab
  rw [hopt] at this
  exact this

theorem wf1 : CodeWf [⟨4, 1, 5, 0, 0⟩, ⟨5, 1, 5, 0, 0⟩, ⟨34, 0, 0, 0, 0⟩] := by
  intro k hk
  match k, hk with
  | 0, _ => exact ⟨by decide, by decide, by decide, by decide, by decide, by decide, by decide, by decide, by decide, by decide⟩
  | 1, _ => exact ⟨by decide, by decide, by decide, by decide, by decide, by decide, by decide, by decide, by decide, by decide⟩
  | 2, _ => exact ⟨by decide, by decide, by decide, by decide, by decide, by decide, by decide, by decide, by decide, by decide⟩
theorem wf2 : CodeWf [⟨4, 1, 5, 0, 0⟩, ⟨4, 2, 1, 0, 0⟩, ⟨5, 2, 1, 0, 0⟩, ⟨5, 1, 5, 0, 0⟩] := by
  intro k hk
  match k, hk with
  | 0, _ => exact ⟨by decide, by decide, by decide, by decide, by decide, by decide, by decide, by decide, by decide, by decide⟩
  | 1, _ => exact ⟨by decide, by decide, by decide, by decide, by decide, by decide, by decide, by decide, by decide, by decide⟩
  | 2, _ => exact ⟨by decide, by decide, by decide, by decide, by decide, by decide, by decide, by decide, by decide, by decide⟩
  | 3, _ => exact ⟨by decide, by decide, by decide, by decide, by decide, by decide, by decide, by decide, by decide, by decide⟩
theorem wf3 : CodeWf [⟨21, 1, 14, 0, 0⟩, ⟨21, 1, 14, 0, 0⟩] := by
  intro k hk
  match k, hk with
  | 0, _ => exact ⟨by decide, by decide, by decide, by decide, by decide, by decide, by decide, by decide, by decide, by decide⟩
  | 1, _ => exact ⟨by decide, by decide, by decide, by decide, by decide, by decide, by decide, by decide, by decide, by decide⟩
theorem rd_one {w : World} {D : Nat → Prop} {A : Option Addr} {m : Nat} {x : Ins} (h : Rd w D 5 A m (codeCells [x])) : m = 1 ∧ ∃ b o, A = some ⟨b, o, none⟩ ∧ D b ∧ w.cell? ⟨b, o, none⟩ = some (.int .u8 x.op) := by
  have hm : m = 1 := by have := h.1; rw [codeCells_length] at this; simp at this; omega
  subst hm
  obtain ⟨b, o, rfl, hD, hc⟩ := h.2 (by decide)
  exact ⟨rfl, b, o, rfl, hD, by have := hc 0 (.int .u8 x.op) rfl; rwa [Nat.add_zero] at this⟩

theorem c_awake (w : World) (hTab : TableAt w) :
    Calls Tryd.prog 23 #[] w fun e w' => e = .returned (.bool true) ∧ Below w.heap.size w w' := by
  have HT := Lib.hid hTab; clear hTab
  go_enter Tryd.func23, Tryd.ntmps23
  go_wp2_with fail
  refine (c_OptimizeL _ _ _ [⟨4, 1, 5, 0, 0⟩, ⟨5, 1, 5, 0, 0⟩, ⟨34, 0, 0, 0, 0⟩] [⟨34, 0, 0, 0, 0⟩] _ _ 0 1 0 _ (by decide +kernel) (Rd.new (by simp) (by rfl)) wf1 (HT.out.next (by go_grown))).mono ?_
  rintro e w1 ⟨A1, m1, c1, rfl, hR1, hb1⟩
  have hB1 : Below w.heap.size w w1 := Below.next (by go_grown) hb1
  obtain ⟨rfl, b1, o1, rfl, ⟨_, d1⟩, x1⟩ := rd_one hR1
  have K1 : Blk w1 (w.heap.size) 68 #[.int .u8 (4), .int .i64 (1), .int .i64 (5), .int .i64 (0), .int .i64 (0)] := Blk.next (by repeat' (first | assumption | exact Blk.new' (by simp) _ _ | apply Blk.alloc | apply Blk.drew)) hb1
  have K2 : Blk w1 (w.heap.size + 1) 68 #[.int .u8 (5), .int .i64 (1), .int .i64 (5), .int .i64 (0), .int .i64 (0)] := Blk.next (by repeat' (first | assumption | exact Blk.new' (by simp) _ _ | apply Blk.alloc | apply Blk.drew)) hb1
  have K3 : Blk w1 (w.heap.size + 1 + 1) 68 #[.int .u8 (4), .int .i64 (2), .int .i64 (1), .int .i64 (0), .int .i64 (0)] := Blk.next (by repeat' (first | assumption | exact Blk.new' (by simp) _ _ | apply Blk.alloc | apply Blk.drew)) hb1
  have K4 : Blk w1 (w.heap.size + 1 + 1 + 1) 68 #[.int .u8 (5), .int .i64 (2), .int .i64 (1), .int .i64 (0), .int .i64 (0)] := Blk.next (by repeat' (first | assumption | exact Blk.new' (by simp) _ _ | apply Blk.alloc | apply Blk.drew)) hb1
  have K5 : Blk w1 (w.heap.size + 1 + 1 + 1 + 1) 68 #[.int .u8 (21), .int .i64 (1), .int .i64 (14), .int .i64 (0), .int .i64 (0)] := Blk.next (by repeat' (first | assumption | exact Blk.new' (by simp) _ _ | apply Blk.alloc | apply Blk.drew)) hb1
  clear hR1 hb1
  obtain ⟨z1, T1, _⟩ := K1.open_
  obtain ⟨z2, T2, _⟩ := K2.open_
  obtain ⟨z3, T3, _⟩ := K3.open_
  obtain ⟨z4, T4, _⟩ := K4.open_
  obtain ⟨z5, T5, _⟩ := K5.open_
  have H1 := Lib.hid K1; have H2 := Lib.hid K2; have H3 := Lib.hid K3; have H4 := Lib.hid K4; have H5 := Lib.hid K5
  clear K1 K2 K3 K4 K5
  go_wp2_with fail
  refine (c_OptimizeL _ _ _ [⟨4, 1, 5, 0, 0⟩, ⟨4, 2, 1, 0, 0⟩, ⟨5, 2, 1, 0, 0⟩, ⟨5, 1, 5, 0, 0⟩] [] _ _ 0 1 0 _ (by decide +kernel) (Rd.new (by simp) (by rfl)) wf2 (HT.out.next (by go_grown))).mono ?_
  rintro e w2 ⟨A2, m2, c2, rfl, hR2, hb2⟩
  have hB2 : Below w.heap.size w w2 := Below.trans (by go_grown) (hb2.mono (by go_size))
  obtain rfl : m2 = 0 := by have := hR2.1; simp [codeCells] at this; omega
  have K1 : Blk w2 (w.heap.size) 68 #[.int .u8 (4), .int .i64 (1), .int .i64 (5), .int .i64 (0), .int .i64 (0)] := Blk.next ((H1.out.alloc _).alloc _) hb2
  have K2 : Blk w2 (w.heap.size + 1) 68 #[.int .u8 (5), .int .i64 (1), .int .i64 (5), .int .i64 (0), .int .i64 (0)] := Blk.next ((H2.out.alloc _).alloc _) hb2
  have K3 : Blk w2 (w.heap.size + 1 + 1) 68 #[.int .u8 (4), .int .i64 (2), .int .i64 (1), .int .i64 (0), .int .i64 (0)] := Blk.next ((H3.out.alloc _).alloc _) hb2
  have K4 : Blk w2 (w.heap.size + 1 + 1 + 1) 68 #[.int .u8 (5), .int .i64 (2), .int .i64 (1), .int .i64 (0), .int .i64 (0)] := Blk.next ((H4.out.alloc _).alloc _) hb2
  have K5 : Blk w2 (w.heap.size + 1 + 1 + 1 + 1) 68 #[.int .u8 (21), .int .i64 (1), .int .i64 (14), .int .i64 (0), .int .i64 (0)] := Blk.next ((H5.out.alloc _).alloc _) hb2
  have K6 : Blk w2 w1.heap.size 32 #[.slice (some ⟨b1, o1, none⟩) 1 c1, .int .i64 0, .int .i64 1] := Blk.next (by repeat' (first | assumption | exact Blk.new' (by simp) _ _ | apply Blk.alloc | apply Blk.drew)) hb2
  have x2 : w2.cell? ⟨b1, o1, none⟩ = some (.int .u8 34) := (hb2.cell (p := ⟨b1, o1, none⟩) (by simp; omega)).trans (by go_simp)
  have d2 : b1 < w2.heap.size := by have := hb2.size; simp at this; omega
  clear T1 z1 T2 z2 T3 z3 T4 z4 T5 z5
  clear H1 H2 H3 H4 H5 hb2 x1 d1 hR2
  obtain ⟨z1, T1, _⟩ := K1.open_
  obtain ⟨z2, T2, _⟩ := K2.open_
  obtain ⟨z3, T3, _⟩ := K3.open_
  obtain ⟨z4, T4, _⟩ := K4.open_
  obtain ⟨z5, T5, _⟩ := K5.open_
  obtain ⟨z6, T6, _⟩ := K6.open_
  have H1 := Lib.hid K1; clear K1
  have H2 := Lib.hid K2; clear K2
  have H3 := Lib.hid K3; clear K3
  have H4 := Lib.hid K4; clear K4
  have H5 := Lib.hid K5; clear K5
  have H6 := Lib.hid K6; clear K6
  go_wp2_with fail
  refine (c_OptimizeL _ _ _ [⟨21, 1, 14, 0, 0⟩, ⟨21, 1, 14, 0, 0⟩] [⟨21, 1, 14, 0, 0⟩, ⟨21, 1, 14, 0, 0⟩] _ _ 0 1 0 _ (by decide +kernel) (Rd.new (by simp) (by rfl)) wf3 (HT.out.next (by go_grown))).mono ?_
  rintro e w3 ⟨A3, m3, c3, rfl, hR3, hb3⟩
  have hB3 : Below w.heap.size w w3 := Below.trans (by go_grown) (hb3.mono (by go_size))
  obtain rfl : m3 = 2 := by have := hR3.1; simp [codeCells, insCells] at this; omega
  have K1 : Blk w3 (w.heap.size) 68 #[.int .u8 (4), .int .i64 (1), .int .i64 (5), .int .i64 (0), .int .i64 (0)] := Blk.next ((H1.out.alloc _).alloc _) hb3
  have K2 : Blk w3 (w.heap.size + 1) 68 #[.int .u8 (5), .int .i64 (1), .int .i64 (5), .int .i64 (0), .int .i64 (0)] := Blk.next ((H2.out.alloc _).alloc _) hb3
  have K3 : Blk w3 (w.heap.size + 1 + 1) 68 #[.int .u8 (4), .int .i64 (2), .int .i64 (1), .int .i64 (0), .int .i64 (0)] := Blk.next ((H3.out.alloc _).alloc _) hb3
  have K4 : Blk w3 (w.heap.size + 1 + 1 + 1) 68 #[.int .u8 (5), .int .i64 (2), .int .i64 (1), .int .i64 (0), .int .i64 (0)] := Blk.next ((H4.out.alloc _).alloc _) hb3
  have K5 : Blk w3 (w.heap.size + 1 + 1 + 1 + 1) 68 #[.int .u8 (21), .int .i64 (1), .int .i64 (14), .int .i64 (0), .int .i64 (0)] := Blk.next ((H5.out.alloc _).alloc _) hb3
  have K6 : Blk w3 w1.heap.size 32 #[.slice (some ⟨b1, o1, none⟩) 1 c1, .int .i64 0, .int .i64 1] := Blk.next ((H6.out.alloc _).alloc _) hb3
  have K7 : Blk w3 w2.heap.size 32 #[.slice A2 0 c2, .int .i64 0, .int .i64 1] := Blk.next (by repeat' (first | assumption | exact Blk.new' (by simp) _ _ | apply Blk.alloc | apply Blk.drew)) hb3
  have x3 : w3.cell? ⟨b1, o1, none⟩ = some (.int .u8 34) := (hb3.cell (p := ⟨b1, o1, none⟩) (by simp; omega)).trans (by go_simp)
  have d3 : b1 < w3.heap.size := by have := hb3.size; simp at this; omega
  clear T1 z1 T2 z2 T3 z3 T4 z4 T5 z5
  clear H1 H2 H3 H4 H5 H6 T6 z6 hb3 x2 d2 hR3
  obtain ⟨z1, T1, _⟩ := K1.open_
  obtain ⟨z2, T2, _⟩ := K2.open_
  obtain ⟨z5, T5, _⟩ := K5.open_
  obtain ⟨z6, T6, _⟩ := K6.open_
  obtain ⟨z7, T7, _⟩ := K7.open_
  have H1 := Lib.hid K1; clear K1
  have H2 := Lib.hid K2; clear K2
  have H5 := Lib.hid K5; clear K5
  have H6 := Lib.hid K6; clear K6
  have H7 := Lib.hid K7; clear K7
  clear K3 K4
  go_wp2_with fail
  refine (c_Cancels' _ _ _ _ _ _ _ _ _ _ (v := true) (by decide +kernel) (by decide) (by decide) _ (HT.out.next (by go_grown))).mono ?_
  rintro e w4 ⟨rfl, hb4⟩
  have hB4 : Below w.heap.size w w4 := Below.trans (by go_grown) (hb4.mono (by go_size))
  have K5 : Blk w4 (w.heap.size + 1 + 1 + 1 + 1) 68 #[.int .u8 (21), .int .i64 (1), .int .i64 (14), .int .i64 (0), .int .i64 (0)] := Blk.next (H5.out.alloc _) hb4
  clear T1 z1 T2 z2 T5 z5 T6 z6 T7 z7 H1 H2 H5 H6 H7 hb4 x3
  obtain ⟨z5, T5, _⟩ := K5.open_
  have H5 := Lib.hid K5; clear K5
  go_wp2_with fail
  refine (c_Cancels' _ _ _ _ _ _ _ _ _ _ (v := false) (by decide +kernel) (by decide) (by decide) _ (HT.out.next (by go_grown))).mono ?_
  rintro e w5 ⟨rfl, hb5⟩
  have hB5 : Below w.heap.size w w5 := Below.trans (by go_grown) (hb5.mono (by go_size))
  go_wp2_with fail
  go_ret
  exact ⟨rfl, hB5⟩
end Go.Proofs.YteenmpjjaheggaaDoor

/- Small images of layer 32. -/
set_option linter.unusedVariables false
namespace Go.Proofs.YteenmpjjaheggaaDoor
open Go.RowKit Bk
theorem c_smallV (A : Option Addr) (n cap : Nat) (im : Img) {v : Bool} (w : World) (h : (decide (n ≤ 90) && im.valid) = v) (hC : Rd w (· < w.heap.size) 5 A n (codeCells im.code)) (hw : CodeWf im.code) (hTab : TableAt w) :
    Calls Tryd.prog 24 #[.agg #[.slice A n cap, .int .i64 im.mem, .int .i64 im.stacks]] w fun e w' => e = .returned (.bool v) ∧ Below w.heap.size w w' := by
  rw [← h]; exact c_small A n cap im w hC hw hTab
theorem small_check {n : Nat} {im : Img} (h : (decide (n ≤ 90) && im.valid) = true) : n ≤ 90 ∧ im.check.2 = 0 := by
  simp only [Bool.and_eq_true, decide_eq_true_eq] at h
  exact ⟨h.1, by have := h.2; unfold Img.valid at this; exact of_decide_eq_true this⟩
end Go.Proofs.YteenmpjjaheggaaDoor
