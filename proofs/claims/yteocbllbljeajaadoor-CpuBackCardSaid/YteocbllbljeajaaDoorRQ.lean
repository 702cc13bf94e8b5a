/- Several texts in one: RcQ RcR RcS. -/
import Derived.Test.YteocbllbljeajaaDoorRX
import Derived.Test.YteocbllbljeajaaDoorCpK
import Derived.Test.YteocbllbljeajaaDoorZCpuM
set_option linter.unusedVariables false
set_option linter.unusedSimpArgs false
/- The reference of layer 24: holds, Target, inverse. -/
set_option maxRecDepth 100000
set_option linter.unusedVariables false
set_option linter.unusedSimpArgs false
namespace Go.Proofs.YteocbllbljeajaaDoor
open Go.RowKit Bk
variable {w : World} {D : Nat → Prop} {P : Pl} {M : Mach} {vm vs vc vi vo : Value} {sv : List Value}
theorem rh_23a (hL : MLs w D M vm vs vc vi vo sv) (x : Nat) (hx : x < 16) (i c d : Int) (hr : M.reg x = 0) :
    Calls Tryd.prog 31 #[.agg (mcells M vm vs vc vi vo).toArray, .agg #[.int .u8 (23), .int .i64 ((x : Nat)), .int .i64 (i), .int .i64 (c), .int .i64 (d)]] w fun e w' => e = .returned (.bool true) ∧ Below w.heap.size w w' := by
  have G := mc_get (M := M) (vm := vm) (vs := vs) (vc := vc) (vi := vi) (vo := vo) hL.rl
  obtain ⟨w1, hw1⟩ : ∃ w1, w1 = (w.alloc (.cells (mcells M vm vs vc vi vo).toArray 30)).alloc (.cells #[.int .u8 (23), .int .i64 ((x : Nat)), .int .i64 (i), .int .i64 (c), .int .i64 (d)] 42) := ⟨_, rfl⟩
  have K1 : Blk w1 w.heap.size 30 (mcells M vm vs vc vi vo).toArray := by rw [hw1]; exact (Blk.new _ _ _).alloc _
  have K2 : Blk w1 (w.heap.size + 1) 42 #[.int .u8 (23), .int .i64 ((x : Nat)), .int .i64 (i), .int .i64 (c), .int .i64 (d)] := by rw [hw1]; exact Blk.new' (by simp) _ _
  have hbw : Below w.heap.size w w1 := by rw [hw1]; exact ((Below.refl _ _).alloc (Nat.le_refl _) _).alloc (by simp) _
  have er : w1.cell? ⟨w.heap.size, 2 + x, none⟩ = some (.int .i64 (M.reg x)) := by rw [K1.cell, List.getElem?_toArray]; exact G.2.2.1 x hx
  have i0 : (0 : Int) ≤ (x : Int) := by omega
  have i1 : (x : Int) < 16 := by omega
  rw [hr] at er
  obtain ⟨zI, TI, FI⟩ := K2.open_
  clear G K1 K2 hL hr
  go_enter Tryd.func31, Tryd.ntmps31
  go_upto_region 1 with fail
  rw [← hw1]
  clear hw1
  go_wp2_with fail
  go_ret
  exact ⟨rfl, by go_grown⟩
theorem rh_23b (hL : MLs w D M vm vs vc vi vo sv) (x : Nat) (hx : x < 16) (i c d : Int) (hr : M.reg x ≠ 0) :
    Calls Tryd.prog 31 #[.agg (mcells M vm vs vc vi vo).toArray, .agg #[.int .u8 (23), .int .i64 ((x : Nat)), .int .i64 (i), .int .i64 (c), .int .i64 (d)]] w fun e w' => e = .returned (.bool false) ∧ Below w.heap.size w w' := by
  have G := mc_get (M := M) (vm := vm) (vs := vs) (vc := vc) (vi := vi) (vo := vo) hL.rl
  obtain ⟨w1, hw1⟩ : ∃ w1, w1 = (w.alloc (.cells (mcells M vm vs vc vi vo).toArray 30)).alloc (.cells #[.int .u8 (23), .int .i64 ((x : Nat)), .int .i64 (i), .int .i64 (c), .int .i64 (d)] 42) := ⟨_, rfl⟩
  have K1 : Blk w1 w.heap.size 30 (mcells M vm vs vc vi vo).toArray := by rw [hw1]; exact (Blk.new _ _ _).alloc _
  have K2 : Blk w1 (w.heap.size + 1) 42 #[.int .u8 (23), .int .i64 ((x : Nat)), .int .i64 (i), .int .i64 (c), .int .i64 (d)] := by rw [hw1]; exact Blk.new' (by simp) _ _
  have hbw : Below w.heap.size w w1 := by rw [hw1]; exact ((Below.refl _ _).alloc (Nat.le_refl _) _).alloc (by simp) _
  have er : w1.cell? ⟨w.heap.size, 2 + x, none⟩ = some (.int .i64 (M.reg x)) := by rw [K1.cell, List.getElem?_toArray]; exact G.2.2.1 x hx
  have i0 : (0 : Int) ≤ (x : Int) := by omega
  have i1 : (x : Int) < 16 := by omega
  have hr' : (M.reg x == 0) = false := by simpa using hr
  have hr2 : (M.reg x != 0) = true := by simpa using hr
  obtain ⟨zI, TI, FI⟩ := K2.open_
  clear G K1 K2 hL hr
  go_enter Tryd.func31, Tryd.ntmps31
  go_upto_region 1 with fail
  rw [← hw1]
  clear hw1
  go_wp2_with fail
  go_ret
  exact ⟨rfl, by go_grown⟩
theorem rh_26a (hL : MLs w D M vm vs vc vi vo sv) (x : Nat) (hx : x < 16) (i c d : Int) (hr : M.reg x = 0) :
    Calls Tryd.prog 31 #[.agg (mcells M vm vs vc vi vo).toArray, .agg #[.int .u8 (26), .int .i64 ((x : Nat)), .int .i64 (i), .int .i64 (c), .int .i64 (d)]] w fun e w' => e = .returned (.bool true) ∧ Below w.heap.size w w' := by
  have G := mc_get (M := M) (vm := vm) (vs := vs) (vc := vc) (vi := vi) (vo := vo) hL.rl
  obtain ⟨w1, hw1⟩ : ∃ w1, w1 = (w.alloc (.cells (mcells M vm vs vc vi vo).toArray 30)).alloc (.cells #[.int .u8 (26), .int .i64 ((x : Nat)), .int .i64 (i), .int .i64 (c), .int .i64 (d)] 42) := ⟨_, rfl⟩
  have K1 : Blk w1 w.heap.size 30 (mcells M vm vs vc vi vo).toArray := by rw [hw1]; exact (Blk.new _ _ _).alloc _
  have K2 : Blk w1 (w.heap.size + 1) 42 #[.int .u8 (26), .int .i64 ((x : Nat)), .int .i64 (i), .int .i64 (c), .int .i64 (d)] := by rw [hw1]; exact Blk.new' (by simp) _ _
  have hbw : Below w.heap.size w w1 := by rw [hw1]; exact ((Below.refl _ _).alloc (Nat.le_refl _) _).alloc (by simp) _
  have er : w1.cell? ⟨w.heap.size, 2 + x, none⟩ = some (.int .i64 (M.reg x)) := by rw [K1.cell, List.getElem?_toArray]; exact G.2.2.1 x hx
  have i0 : (0 : Int) ≤ (x : Int) := by omega
  have i1 : (x : Int) < 16 := by omega
  rw [hr] at er
  obtain ⟨zI, TI, FI⟩ := K2.open_
  clear G K1 K2 hL hr
  go_enter Tryd.func31, Tryd.ntmps31
  go_upto_region 1 with fail
  rw [← hw1]
  clear hw1
  go_wp2_with fail
  go_ret
  exact ⟨rfl, by go_grown⟩
theorem rh_26b (hL : MLs w D M vm vs vc vi vo sv) (x : Nat) (hx : x < 16) (i c d : Int) (hr : M.reg x ≠ 0) :
    Calls Tryd.prog 31 #[.agg (mcells M vm vs vc vi vo).toArray, .agg #[.int .u8 (26), .int .i64 ((x : Nat)), .int .i64 (i), .int .i64 (c), .int .i64 (d)]] w fun e w' => e = .returned (.bool false) ∧ Below w.heap.size w w' := by
  have G := mc_get (M := M) (vm := vm) (vs := vs) (vc := vc) (vi := vi) (vo := vo) hL.rl
  obtain ⟨w1, hw1⟩ : ∃ w1, w1 = (w.alloc (.cells (mcells M vm vs vc vi vo).toArray 30)).alloc (.cells #[.int .u8 (26), .int .i64 ((x : Nat)), .int .i64 (i), .int .i64 (c), .int .i64 (d)] 42) := ⟨_, rfl⟩
  have K1 : Blk w1 w.heap.size 30 (mcells M vm vs vc vi vo).toArray := by rw [hw1]; exact (Blk.new _ _ _).alloc _
  have K2 : Blk w1 (w.heap.size + 1) 42 #[.int .u8 (26), .int .i64 ((x : Nat)), .int .i64 (i), .int .i64 (c), .int .i64 (d)] := by rw [hw1]; exact Blk.new' (by simp) _ _
  have hbw : Below w.heap.size w w1 := by rw [hw1]; exact ((Below.refl _ _).alloc (Nat.le_refl _) _).alloc (by simp) _
  have er : w1.cell? ⟨w.heap.size, 2 + x, none⟩ = some (.int .i64 (M.reg x)) := by rw [K1.cell, List.getElem?_toArray]; exact G.2.2.1 x hx
  have i0 : (0 : Int) ≤ (x : Int) := by omega
  have i1 : (x : Int) < 16 := by omega
  have hr' : (M.reg x == 0) = false := by simpa using hr
  have hr2 : (M.reg x != 0) = true := by simpa using hr
  obtain ⟨zI, TI, FI⟩ := K2.open_
  clear G K1 K2 hL hr
  go_enter Tryd.func31, Tryd.ntmps31
  go_upto_region 1 with fail
  rw [← hw1]
  clear hw1
  go_wp2_with fail
  go_ret
  exact ⟨rfl, by go_grown⟩
theorem rh_24a (hL : MLs w D M vm vs vc vi vo sv) (x : Nat) (hx : x < 16) (i c d : Int) (hr : M.reg x = 0) :
    Calls Tryd.prog 31 #[.agg (mcells M vm vs vc vi vo).toArray, .agg #[.int .u8 (24), .int .i64 ((x : Nat)), .int .i64 (i), .int .i64 (c), .int .i64 (d)]] w fun e w' => e = .returned (.bool false) ∧ Below w.heap.size w w' := by
  have G := mc_get (M := M) (vm := vm) (vs := vs) (vc := vc) (vi := vi) (vo := vo) hL.rl
  obtain ⟨w1, hw1⟩ : ∃ w1, w1 = (w.alloc (.cells (mcells M vm vs vc vi vo).toArray 30)).alloc (.cells #[.int .u8 (24), .int .i64 ((x : Nat)), .int .i64 (i), .int .i64 (c), .int .i64 (d)] 42) := ⟨_, rfl⟩
  have K1 : Blk w1 w.heap.size 30 (mcells M vm vs vc vi vo).toArray := by rw [hw1]; exact (Blk.new _ _ _).alloc _
  have K2 : Blk w1 (w.heap.size + 1) 42 #[.int .u8 (24), .int .i64 ((x : Nat)), .int .i64 (i), .int .i64 (c), .int .i64 (d)] := by rw [hw1]; exact Blk.new' (by simp) _ _
  have hbw : Below w.heap.size w w1 := by rw [hw1]; exact ((Below.refl _ _).alloc (Nat.le_refl _) _).alloc (by simp) _
  have er : w1.cell? ⟨w.heap.size, 2 + x, none⟩ = some (.int .i64 (M.reg x)) := by rw [K1.cell, List.getElem?_toArray]; exact G.2.2.1 x hx
  have i0 : (0 : Int) ≤ (x : Int) := by omega
  have i1 : (x : Int) < 16 := by omega
  rw [hr] at er
  obtain ⟨zI, TI, FI⟩ := K2.open_
  clear G K1 K2 hL hr
  go_enter Tryd.func31, Tryd.ntmps31
  go_upto_region 1 with fail
  rw [← hw1]
  clear hw1
  go_wp2_with fail
  go_ret
  exact ⟨rfl, by go_grown⟩
theorem rh_24b (hL : MLs w D M vm vs vc vi vo sv) (x : Nat) (hx : x < 16) (i c d : Int) (hr : M.reg x ≠ 0) :
    Calls Tryd.prog 31 #[.agg (mcells M vm vs vc vi vo).toArray, .agg #[.int .u8 (24), .int .i64 ((x : Nat)), .int .i64 (i), .int .i64 (c), .int .i64 (d)]] w fun e w' => e = .returned (.bool true) ∧ Below w.heap.size w w' := by
  have G := mc_get (M := M) (vm := vm) (vs := vs) (vc := vc) (vi := vi) (vo := vo) hL.rl
  obtain ⟨w1, hw1⟩ : ∃ w1, w1 = (w.alloc (.cells (mcells M vm vs vc vi vo).toArray 30)).alloc (.cells #[.int .u8 (24), .int .i64 ((x : Nat)), .int .i64 (i), .int .i64 (c), .int .i64 (d)] 42) := ⟨_, rfl⟩
  have K1 : Blk w1 w.heap.size 30 (mcells M vm vs vc vi vo).toArray := by rw [hw1]; exact (Blk.new _ _ _).alloc _
  have K2 : Blk w1 (w.heap.size + 1) 42 #[.int .u8 (24), .int .i64 ((x : Nat)), .int .i64 (i), .int .i64 (c), .int .i64 (d)] := by rw [hw1]; exact Blk.new' (by simp) _ _
  have hbw : Below w.heap.size w w1 := by rw [hw1]; exact ((Below.refl _ _).alloc (Nat.le_refl _) _).alloc (by simp) _
  have er : w1.cell? ⟨w.heap.size, 2 + x, none⟩ = some (.int .i64 (M.reg x)) := by rw [K1.cell, List.getElem?_toArray]; exact G.2.2.1 x hx
  have i0 : (0 : Int) ≤ (x : Int) := by omega
  have i1 : (x : Int) < 16 := by omega
  have hr' : (M.reg x == 0) = false := by simpa using hr
  have hr2 : (M.reg x != 0) = true := by simpa using hr
  obtain ⟨zI, TI, FI⟩ := K2.open_
  clear G K1 K2 hL hr
  go_enter Tryd.func31, Tryd.ntmps31
  go_upto_region 1 with fail
  rw [← hw1]
  clear hw1
  go_wp2_with fail
  go_ret
  exact ⟨rfl, by go_grown⟩
theorem rh_27a (hL : MLs w D M vm vs vc vi vo sv) (x : Nat) (hx : x < 16) (i c d : Int) (hr : M.reg x = 0) :
    Calls Tryd.prog 31 #[.agg (mcells M vm vs vc vi vo).toArray, .agg #[.int .u8 (27), .int .i64 ((x : Nat)), .int .i64 (i), .int .i64 (c), .int .i64 (d)]] w fun e w' => e = .returned (.bool false) ∧ Below w.heap.size w w' := by
  have G := mc_get (M := M) (vm := vm) (vs := vs) (vc := vc) (vi := vi) (vo := vo) hL.rl
  obtain ⟨w1, hw1⟩ : ∃ w1, w1 = (w.alloc (.cells (mcells M vm vs vc vi vo).toArray 30)).alloc (.cells #[.int .u8 (27), .int .i64 ((x : Nat)), .int .i64 (i), .int .i64 (c), .int .i64 (d)] 42) := ⟨_, rfl⟩
  have K1 : Blk w1 w.heap.size 30 (mcells M vm vs vc vi vo).toArray := by rw [hw1]; exact (Blk.new _ _ _).alloc _
  have K2 : Blk w1 (w.heap.size + 1) 42 #[.int .u8 (27), .int .i64 ((x : Nat)), .int .i64 (i), .int .i64 (c), .int .i64 (d)] := by rw [hw1]; exact Blk.new' (by simp) _ _
  have hbw : Below w.heap.size w w1 := by rw [hw1]; exact ((Below.refl _ _).alloc (Nat.le_refl _) _).alloc (by simp) _
  have er : w1.cell? ⟨w.heap.size, 2 + x, none⟩ = some (.int .i64 (M.reg x)) := by rw [K1.cell, List.getElem?_toArray]; exact G.2.2.1 x hx
  have i0 : (0 : Int) ≤ (x : Int) := by omega
  have i1 : (x : Int) < 16 := by omega
  rw [hr] at er
  obtain ⟨zI, TI, FI⟩ := K2.open_
  clear G K1 K2 hL hr
  go_enter Tryd.func31, Tryd.ntmps31
  go_upto_region 1 with fail
  rw [← hw1]
  clear hw1
  go_wp2_with fail
  go_ret
  exact ⟨rfl, by go_grown⟩
theorem rh_27b (hL : MLs w D M vm vs vc vi vo sv) (x : Nat) (hx : x < 16) (i c d : Int) (hr : M.reg x ≠ 0) :
    Calls Tryd.prog 31 #[.agg (mcells M vm vs vc vi vo).toArray, .agg #[.int .u8 (27), .int .i64 ((x : Nat)), .int .i64 (i), .int .i64 (c), .int .i64 (d)]] w fun e w' => e = .returned (.bool true) ∧ Below w.heap.size w w' := by
  have G := mc_get (M := M) (vm := vm) (vs := vs) (vc := vc) (vi := vi) (vo := vo) hL.rl
  obtain ⟨w1, hw1⟩ : ∃ w1, w1 = (w.alloc (.cells (mcells M vm vs vc vi vo).toArray 30)).alloc (.cells #[.int .u8 (27), .int .i64 ((x : Nat)), .int .i64 (i), .int .i64 (c), .int .i64 (d)] 42) := ⟨_, rfl⟩
  have K1 : Blk w1 w.heap.size 30 (mcells M vm vs vc vi vo).toArray := by rw [hw1]; exact (Blk.new _ _ _).alloc _
  have K2 : Blk w1 (w.heap.size + 1) 42 #[.int .u8 (27), .int .i64 ((x : Nat)), .int .i64 (i), .int .i64 (c), .int .i64 (d)] := by rw [hw1]; exact Blk.new' (by simp) _ _
  have hbw : Below w.heap.size w w1 := by rw [hw1]; exact ((Below.refl _ _).alloc (Nat.le_refl _) _).alloc (by simp) _
  have er : w1.cell? ⟨w.heap.size, 2 + x, none⟩ = some (.int .i64 (M.reg x)) := by rw [K1.cell, List.getElem?_toArray]; exact G.2.2.1 x hx
  have i0 : (0 : Int) ≤ (x : Int) := by omega
  have i1 : (x : Int) < 16 := by omega
  have hr' : (M.reg x == 0) = false := by simpa using hr
  have hr2 : (M.reg x != 0) = true := by simpa using hr
  obtain ⟨zI, TI, FI⟩ := K2.open_
  clear G K1 K2 hL hr
  go_enter Tryd.func31, Tryd.ntmps31
  go_upto_region 1 with fail
  rw [← hw1]
  clear hw1
  go_wp2_with fail
  go_ret
  exact ⟨rfl, by go_grown⟩
theorem rh_else (p : Array Value) (op a b c d : Int) (h1 : op ≠ 23) (h2 : op ≠ 26) (h3 : op ≠ 24) (h4 : op ≠ 27) (w : World) :
    Calls Tryd.prog 31 #[.agg p, .agg #[.int .u8 (op), .int .i64 (a), .int .i64 (b), .int .i64 (c), .int .i64 (d)]] w fun e w' => e = .returned (.bool true) ∧ Below w.heap.size w w' := by
  go_enter Tryd.func31, Tryd.ntmps31
  go_wp2_with fail
  go_ret
  exact ⟨rfl, by go_grown⟩
theorem c_rholds (hL : MLs w D M vm vs vc vi vo sv) (i : Ins) (hv : i.valid = true) {v : Bool} (hh : holds M i = v) :
    Calls Tryd.prog 31 #[.agg (mcells M vm vs vc vi vo).toArray, .agg #[.int .u8 (i.op), .int .i64 (i.a), .int .i64 (i.b), .int .i64 (i.c), .int .i64 (i.d)]] w fun e w' => e = .returned (.bool v) ∧ Below w.heap.size w w' := by
  obtain ⟨op, a, b, c, d⟩ := i
  simp only [Ins.valid, validB, Bool.and_eq_true] at hv
  obtain ⟨⟨_, _⟩, hsh⟩ := hv
  subst hh
  unfold holds
  simp only
  by_cases e : op = 23 ∨ op = 26 ∨ op = 24 ∨ op = 27
  · have hx : 0 ≤ a ∧ a < 16 := by
      rcases e with rfl | rfl | rfl | rfl <;> (simp [shapeB, regB] at hsh; exact hsh.1)
    clear hsh
    obtain ⟨x, rfl⟩ := nat_of hx.1
    by_cases hr : M.reg x = 0
    · rcases e with rfl | rfl | rfl | rfl
      · rw [if_pos (by simp), decide_eq_true hr]; exact rh_23a hL x (by omega) b c d hr
      · rw [if_pos (by simp), decide_eq_true hr]; exact rh_26a hL x (by omega) b c d hr
      · rw [if_neg (by simp), if_pos (by simp), decide_eq_false (fun g => g hr)]; exact rh_24a hL x (by omega) b c d hr
      · rw [if_neg (by simp), if_pos (by simp), decide_eq_false (fun g => g hr)]; exact rh_27a hL x (by omega) b c d hr
    · rcases e with rfl | rfl | rfl | rfl
      · rw [if_pos (by simp), decide_eq_false hr]; exact rh_23b hL x (by omega) b c d hr
      · rw [if_pos (by simp), decide_eq_false hr]; exact rh_26b hL x (by omega) b c d hr
      · rw [if_neg (by simp), if_pos (by simp), decide_eq_true hr]; exact rh_24b hL x (by omega) b c d hr
      · rw [if_neg (by simp), if_pos (by simp), decide_eq_true hr]; exact rh_27b hL x (by omega) b c d hr
  · rw [if_neg (by omega), if_neg (by omega)]
    exact rh_else _ op a b c d (by omega) (by omega) (by omega) (by omega) w
/-- The target of a jump or a landing. -/
def rtgt (i : Ins) : Int := if i.op = 22 ∨ i.op = 25 then i.a else i.b
theorem c_rTarget (op a b c d : Int) {t : Int} (ht : rtgt ⟨op, a, b, c, d⟩ = t) (w : World) :
    Calls Tryd.prog 30 #[.agg #[.int .u8 (op), .int .i64 (a), .int .i64 (b), .int .i64 (c), .int .i64 (d)]] w fun e w' => e = .returned (.int .i64 t) ∧ Below w.heap.size w w' := by
  subst ht
  unfold rtgt
  simp only
  by_cases h22 : op = 22
  · subst h22
    rw [if_pos (by simp)]
    go_enter Tryd.func30, Tryd.ntmps30
    go_wp2_with fail
    go_ret
    exact ⟨rfl, by go_grown⟩
  by_cases h25 : op = 25
  · subst h25
    rw [if_pos (by simp)]
    go_enter Tryd.func30, Tryd.ntmps30
    go_wp2_with fail
    go_ret
    exact ⟨rfl, by go_grown⟩
  · rw [if_neg (by omega)]
    have n1 : (op == 22) = false := by simpa using h22
    have n2 : (op == 25) = false := by simpa using h25
    go_enter Tryd.func30, Tryd.ntmps30
    go_wp2_with fail
    go_ret
    exact ⟨rfl, by go_grown⟩
end Go.Proofs.YteocbllbljeajaaDoor

/- The reference of layer 24: inverse. -/
set_option maxRecDepth 100000
set_option linter.unusedVariables false
set_option linter.unusedSimpArgs false
namespace Go.Proofs.YteocbllbljeajaaDoor
open Go.RowKit Bk
def rpa (j : Nat) : Int := [1, 4, 12, 17, 19, 28].getD j 0
def rpb (j : Nat) : Int := [2, 5, 13, 18, 20, 29].getD j 0
def rpairs : Array Value := #[.int .u8 1, .int .u8 2, .int .u8 4, .int .u8 5, .int .u8 12, .int .u8 13, .int .u8 17, .int .u8 18, .int .u8 19, .int .u8 20, .int .u8 28, .int .u8 29]
theorem rpairs_a : ∀ j, j < 6 → rpairs[j * 2]? = some (.int .u8 (rpa j)) ∧ rpairs[j * 2 + 1]? = some (.int .u8 (rpb j)) := by
  intro j hj
  match j, hj with
  | 0, _ => exact ⟨rfl, rfl⟩
  | 1, _ => exact ⟨rfl, rfl⟩
  | 2, _ => exact ⟨rfl, rfl⟩
  | 3, _ => exact ⟨rfl, rfl⟩
  | 4, _ => exact ⟨rfl, rfl⟩
  | 5, _ => exact ⟨rfl, rfl⟩
theorem rinv_a : ∀ j, j < 6 → inv (rpa j) = rpb j ∧ inv (rpb j) = rpa j := by decide
theorem rinv_n {op : Int} (hs : straightB op = true) (h : ∀ j, j < 6 → op ≠ rpa j ∧ op ≠ rpb j) : inv op = op := by
  have h' := of_decide_eq_true hs
  have a0 := h 0 (by decide); have a1 := h 1 (by decide); have a2 := h 2 (by decide); have a3 := h 3 (by decide); have a4 := h 4 (by decide); have a5 := h 5 (by decide)
  simp [rpa, rpb] at a0 a1 a2 a3 a4 a5
  have c : op = 0 ∨ op = 3 ∨ op = 6 ∨ op = 7 ∨ op = 8 ∨ op = 9 ∨ op = 10 ∨ op = 11 ∨ op = 14 ∨ op = 15 ∨ op = 16 ∨ op = 21 := by omega
  rcases c with rfl | rfl | rfl | rfl | rfl | rfl | rfl | rfl | rfl | rfl | rfl | rfl <;> decide
theorem c_rinverse (op a b c d : Int) (hs : straightB op = true) {op' : Int} (ho : inv op = op') (w : World) :
    Calls Tryd.prog 34 #[.agg #[.int .u8 (op), .int .i64 (a), .int .i64 (b), .int .i64 (c), .int .i64 (d)]] w fun e w' => e = .returned (.agg #[.int .u8 (op'), .int .i64 (a), .int .i64 (b), .int .i64 (c), .int .i64 (d)]) ∧ Below w.heap.size w w' := by
  have HS := Lib.hid hs; have HO := Lib.hid ho
  clear hs ho
  go_enter Tryd.func34, Tryd.ntmps34
  go_upto_region 2 with fail
  refine wp_nameY ?_
  intro w1 hw1
  have hbw : Below w.heap.size w w1 := by rw [hw1]; exact (by go_grown)
  have K1 : Blk w1 w.heap.size 42 #[.int .u8 (op), .int .i64 (a), .int .i64 (b), .int .i64 (c), .int .i64 (d)] := by rw [hw1]; exact (by repeat' (first | assumption | exact Blk.new' (by simp) _ _ | apply Blk.alloc | apply Blk.drew))
  have K2 : Blk w1 (w.heap.size + 1) 42 #[.int .u8 (0), .int .i64 (0), .int .i64 (0), .int .i64 (0), .int .i64 (0)] := by rw [hw1]; exact (by repeat' (first | assumption | exact Blk.new' (by simp) _ _ | apply Blk.alloc | apply Blk.drew))
  have K3 : Blk w1 (w.heap.size + 2) 91 rpairs := by rw [hw1]; first | exact Blk.new' (by simp) _ _ | exact (by repeat' (first | assumption | exact Blk.new' (by simp) _ _ | apply Blk.alloc | apply Blk.drew))
  have z1 : w1.heap.size = w.heap.size + 3 := by rw [hw1]; simp
  have HK1 := Lib.hid K1; have HK2 := Lib.hid K2; have HK3 := Lib.hid K3
  clear hw1 K1 K2 K3
  go_wp2_with fail
  go_loopw [4] (fun v wr => ∃ j : Nat, j ≤ 6 ∧ v = .int .i64 j ∧ (∀ k, k < j → op ≠ rpa k ∧ op ≠ rpb k) ∧ Below w1.heap.size w1 wr) (fun v _ => 6 - (intOf v).toNat)
  case atStart => exact ⟨0, by omega, rfl, fun k hk => by omega, Below.refl _ _⟩
  case round =>
    obtain ⟨j, hj, rfl, hn, hbr⟩ := hrel
    have K1 := HK1.out.next hbr
    have K2 := HK2.out.next hbr
    have K3 := HK3.out.next hbr
    have HN := Lib.hid hn
    obtain ⟨zI, TI, FI⟩ := K1.open_
    obtain ⟨zR, TR, FR⟩ := K2.open_
    have hbw1 : Below w.heap.size w wr := hbw.next hbr
    by_cases hlt : j < 6
    · have ca : wr.cell? ⟨w.heap.size + 2, j * 2, none⟩ = some (.int .u8 (rpa j)) := (K3.cell _).trans (rpairs_a j hlt).1
      have cb : wr.cell? ⟨w.heap.size + 2, j * 2 + 1, none⟩ = some (.int .u8 (rpb j)) := (K3.cell _).trans (rpairs_a j hlt).2
      have j0 : (0 : Int) ≤ (j : Int) := by omega
      have j1 : (j : Int) < 6 := by omega
      have ia := rinv_a j hlt
      have HIA := Lib.hid ia
      obtain ⟨pa, hpa⟩ : ∃ pa, rpa j = pa := ⟨_, rfl⟩
      obtain ⟨pb, hpb⟩ : ∃ pb, rpb j = pb := ⟨_, rfl⟩
      rw [hpa] at ca; rw [hpb] at cb
      have HPA := Lib.hid hpa; have HPB := Lib.hid hpb
      clear hn K1 K2 K3 ia hpa hpb
      by_cases e1 : op = pa
      · have ee : op' = pb := by rw [← HO.out, e1, ← HPA.out, HIA.out.1, HPB.out]
        have q1 : (op == pa) = true := by simpa using e1
        have q2 : (op == op) = true := by simp
        subst ee
        subst e1
        clear HO HPA HPB HIA
        go_wp2_with fail
        go_quiet (fail)
        go_wp2_with fail
        (try simp only [Exit.inBlock, Exit.then])
        refine bodyPost_ret_by (v := .agg #[.int .u8 (op'), .int .i64 (a), .int .i64 (b), .int .i64 (c), .int .i64 (d)]) (by simp [results, Tryd.results34, go_sem, *]) rfl ?_
        exact ⟨rfl, by repeat' (first | (with_reducible assumption) | (with_reducible exact Below.refl _ _) | (with_reducible refine Below.alloc ?_ ?_ _) | (with_reducible refine Bk.drewN_ ?_ _) | (with_reducible refine Below.drew ?_) | (with_reducible refine Below.setCell ?_ ?_ _) | go_size)⟩
      by_cases e2 : op = pb
      · have ee : op' = pa := by rw [← HO.out, e2, ← HPB.out, HIA.out.2, HPA.out]
        have q1 : (op == pa) = false := by simpa using e1
        have q2 : (op == pb) = true := by simpa using e2
        have q3 : (op == op) = true := by simp
        subst ee
        subst e2
        clear HO HPA HPB HIA e1
        go_wp2_with fail
        go_quiet (fail)
        go_wp2_with fail
        go_quiet (fail)
        go_wp2_with fail
        (try simp only [Exit.inBlock, Exit.then])
        refine bodyPost_ret_by (v := .agg #[.int .u8 (op'), .int .i64 (a), .int .i64 (b), .int .i64 (c), .int .i64 (d)]) (by simp [results, Tryd.results34, go_sem, *]) rfl ?_
        exact ⟨rfl, by repeat' (first | (with_reducible assumption) | (with_reducible exact Below.refl _ _) | (with_reducible refine Below.alloc ?_ ?_ _) | (with_reducible refine Bk.drewN_ ?_ _) | (with_reducible refine Below.drew ?_) | (with_reducible refine Below.setCell ?_ ?_ _) | go_size)⟩
      have q1 : (op == pa) = false := by simpa using e1
      have q2 : (op == pb) = false := by simpa using e2
      go_wp2_with fail
      go_quiet (fail)
      go_wp2_with fail
      go_quiet (fail)
      go_wp2_with fail
      exact ⟨⟨j + 1, by omega, by go_num, fun k hk => by
        rcases Nat.lt_or_ge k j with h | h
        · exact HN.out k h
        · obtain rfl : k = j := by omega
          exact ⟨by rw [HPA.out]; exact e1, by rw [HPB.out]; exact e2⟩, by repeat' (first | (with_reducible assumption) | (with_reducible exact Below.refl _ _) | (with_reducible refine Below.alloc ?_ ?_ _) | (with_reducible refine Bk.drewN_ ?_ _) | (with_reducible refine Below.drew ?_) | (with_reducible refine Below.setCell ?_ ?_ _) | go_size)⟩, by simp [intOf]; omega⟩
    · obtain rfl : j = 6 := by omega
      have ee : op' = op := by rw [← HO.out]; exact rinv_n HS.out HN.out
      subst ee
      clear hn K1 K2 K3 HO
      go_wp2_with fail
      (try simp only [Exit.inBlock, Exit.then])
      refine bodyPost_ret_by (v := .agg #[.int .u8 (op'), .int .i64 (a), .int .i64 (b), .int .i64 (c), .int .i64 (d)]) (by simp [results, Tryd.results34, go_sem, *]) rfl ?_
      exact ⟨rfl, by repeat' (first | (with_reducible assumption) | (with_reducible exact Below.refl _ _) | (with_reducible refine Below.alloc ?_ ?_ _) | (with_reducible refine Bk.drewN_ ?_ _) | (with_reducible refine Below.drew ?_) | (with_reducible refine Below.setCell ?_ ?_ _) | go_size)⟩
end Go.Proofs.YteocbllbljeajaaDoor

/- The reference of layer 24: activate. -/
set_option maxRecDepth 100000
set_option linter.unusedVariables false
set_option linter.unusedSimpArgs false
namespace Go.Proofs.YteocbllbljeajaaDoor
open Go.RowKit Bk
variable {w : World} {D : Nat → Prop} {P : Pl} {M : Mach} {vm vs vc vi vo : Value} {sv : List Value}
theorem sl_blk2 {w : World} {g : Nat} {t : TypeId} {u v : Value} (h : Blk w g t #[u, v]) : Sl w (fun _ => True) 2 (.slice (some ⟨g, 0, none⟩) 1 1) 1 [u, v] :=
  ⟨_, 1, rfl, Nat.le_refl _, (fun e => by cases e), rfl, fun _ => ⟨g, 0, rfl, trivial, fun j x hx => by
    match j, hx with
    | 0, hx => simp at hx; subst hx; exact h.cell 0
    | 1, hx => simp at hx; subst hx; exact h.cell 1⟩⟩
theorem ra_full (h : MOn w P M vm vs vc vi vo sv) (site : Int) (turn : Bool) (hc : 100 ≤ M.calls.length) (hc2 : M.calls.length ≤ 1000) :
    Calls Tryd.prog 32 #[.pointer (some ⟨P.b, P.off, none⟩), .int .i64 site, .bool turn] w (OnM P (19, M) w) := by
  have HM := Lib.hid h
  have e20 := h.c20
  obtain ⟨Ac, cc, rfl, _⟩ := h.l.2.1
  have c1 : (100 : Int) ≤ (M.calls.length : Int) := by omega
  obtain ⟨b, tt, pre, post, off, gm, gs, fx⟩ := P
  dsimp only at *
  clear h
  go_enter Tryd.func32, Tryd.ntmps32
  go_wp2_with fail
  go_ret
  exact ⟨rfl, HM.out.matE rfl, by repeat' (first | with_reducible (first | assumption | apply Fr.refl | apply Fr.drew | apply Fr.drewN | apply Fr.alloc | apply Fr.set) | exact .inl rfl | exact .inr (.inl rfl) | exact .inr (.inr rfl) | (apply Fr.of; assumption))⟩
theorem ra_ok (h : MOn w P M vm vs vc vi vo sv) (site : Int) (turn : Bool) (hc : M.calls.length < 100) :
    Calls Tryd.prog 32 #[.pointer (some ⟨P.b, P.off, none⟩), .int .i64 site, .bool turn] w (OnM P (0, { M with calls := M.calls ++ [(site, turn)] }) w) := by
  have HM := Lib.hid h
  have e20 := h.c20
  have z20 := h.frozen (P.off + 20)
  have hblt := h.lt
  obtain ⟨Ac, cc, rfl, _⟩ := h.l.2.1
  have c1 : ¬ (100 : Int) ≤ (M.calls.length : Int) := by omega
  obtain ⟨ia, li, lz, ls, lb⟩ := info_parts info_actX
  obtain ⟨b, tt, pre, post, off, gm, gs, fx⟩ := P
  dsimp only at *
  clear h
  go_enter Tryd.func32, Tryd.ntmps32
  go_wp2_with (at_builtin; go_loud (refine wpList_appS rfl (.tmp 14) (.tmp 18) 28 rfl w.heap.size 49 ia _ 2 16 Tryd.underlying28 li lz ls lb rfl (by decide) _ 0 [] rfl (own_zero w (Nat.le_refl _)) rfl (HM.out.next (by go_grown)).l.2.1 (oneActX _) (by unfold maxLen; omega) (by omega) (by simp) ?_))
  intro v1 w1 hown1 hgr1 hat1
  have hb1 : Below w.heap.size w w1 := Below.grown (by go_grown) hgr1 (by simp) (fun k hk => by simp [Value.ownBlock] at hk; omega)
  have e20' : w1.cell? ⟨b, off + 20, none⟩ = some (.slice Ac M.calls.length cc) := (hb1.cell (p := ⟨b, off + 20, none⟩) hblt).trans e20
  obtain ⟨A1, c1', rfl⟩ := own_form hown1
  have HO1 := Lib.hid hown1
  have hs1 := hb1.size
  clear hown1 hgr1 hat1 e20
  go_wp2_with (at_builtin; go_loud (refine wpList_appS rfl (.tmp 19) (.tmp 23) 28 rfl w.heap.size 49 ia _ 2 16 Tryd.underlying28 li lz ls lb rfl (by decide) _ _ _ rfl (own_below HO1.out (by go_grown) (Nat.le_refl _)) rfl (sl_blk2 (Blk.new _ _ _)) (by intro u hu; simp at hu; rcases hu with rfl | rfl <;> rfl) (by unfold maxLen; omega) (by omega) (by simp; omega) ?_))
  intro v2 w2 hown2 hgr2 hat2
  have hb2 : Below w.heap.size w w2 := Below.grown (by go_grown) hgr2 (by simp; omega) (fun k hk => own_block_ge HO1.out hk)
  have e20 : w2.cell? ⟨b, off + 20, none⟩ = some (.slice Ac M.calls.length cc) := (hb2.cell (p := ⟨b, off + 20, none⟩) hblt).trans (HM.out.c20)
  have f20 : w2.frozen? ⟨b, off + 20, none⟩ = false := ((bcell hb2).2 b (off + 20) hblt).trans z20
  have HS2 := Lib.hid (show Sl w2 (fun k => w.heap.size ≤ k ∧ k < w2.heap.size) 2 v2 (M.calls ++ [(site, turn)]).length (actCells (M.calls ++ [(site, turn)])) from by have h2 := Sl.of_own hown2; rw [actCells_append, List.length_append]; simpa [actCells] using h2)
  obtain ⟨A2, c2, rfl⟩ := own_form hown2
  clear hown2 hgr2 hat2 hb1 e20' HO1
  go_wp2_with fail
  go_ret
  exact ⟨rfl, ((HM.out.next hb2).setCalls _ (M.calls ++ [(site, turn)]) (HS2.out.mono fun k hk => HM.out.fresh hk.1 hk.2)).matE rfl, by repeat' (first | with_reducible (first | assumption | apply Fr.refl | apply Fr.drew | apply Fr.drewN | apply Fr.alloc | apply Fr.set) | exact .inl rfl | exact .inr (.inl rfl) | exact .inr (.inr rfl) | (apply Fr.of; assumption))⟩
end Go.Proofs.YteocbllbljeajaaDoor
