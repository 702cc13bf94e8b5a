/- Several texts in one: EgE EgY EgZ EgU1 EgWi. -/
import Derived.Test.YtbijhlgdilkopaaDoorEuX
import Derived.Test.YtbijhlgdilkopaaDoorEcX
import Derived.Test.YtbijhlgdilkopaaDoorIsT
import Derived.Laws.AppendOwnNone
set_option linter.unusedVariables false
set_option linter.unusedSimpArgs false
/- The coder: expr. Printed by gen_ege.py. -/
set_option linter.unusedVariables false
set_option linter.unusedSimpArgs false
set_option maxRecDepth 100000
set_option maxHeartbeats 4000000
namespace Go.Proofs.YtbijhlgdilkopaaDoor
open Go.RowKit Bk
theorem slot_of {sl : List St4} {nm : ByteArray} {k : Int} {s : St4} (h : sl.find? (slotB nm k) = some s) : slotOf sl nm k = s := by unfold slotOf; rw [h]; rfl
theorem x_var {wB : World} {B cb : Nat} {F : Option Addr} {nf cf : Nat} {cc ss : Int} (hBw : B ≤ wB.heap.size) (sl : List St4) (hsl : SlotsAt wB B F sl) (hsn : sl.length = nf) (hs32 : nf ≤ 1000000) (x : Nd) (hk : x.k = 2) (s : St4) (hf : sl.find? (slotB x.nm 1) = some s) (M : Int) : ExprAt wB B cb F nf cf cc ss M (fun _ => [⟨10, 1, s.pos, 0, 0⟩, ⟨3, 2, 1, 0, 0⟩, ⟨10, 1, s.pos, 0, 0⟩, ⟨12, 2, 0, 0, 0⟩]) x := by
  intro w p l q hb hC hp0 hp1 hl
  have HBW := Lib.hid hBw; have HSL := Lib.hid hsl; have HSN := Lib.hid hsn; have HF := Lib.hid hf; have HL := Lib.hid hl; have HC := Lib.hid hC; have HB := Lib.hid hb; have HKD := Lib.hid hk
  obtain ⟨k, num, nm, A, n, cap⟩ := x
  dsimp only at *
  subst hk
  clear hBw hsl hsn hf hl hC hb hp0 hp1
  go_enter Tryd.func28, Tryd.ntmps28
  go_upto_region 1 with fail
  refine wp_nameE ?_
  intro w1 hw1
  have hb1 : Below w.heap.size w w1 := by rw [hw1]; exact (by go_grown)
  have K4 : Blk w1 w.heap.size 24 #[.int .u8 2, .int .i64 num, .string nm, .slice A n cap] := by rw [hw1]; exact (by repeat' (first | assumption | exact Blk.new' (by simp) _ _ | apply Blk.alloc | apply Blk.drew))
  have HC1 := Lib.hid (HC.out.next hb1)
  have HBB := Lib.hid (HB.out.trans (hb1.mono (by have := HB.out.size; have := HBW.out; omega)))
  have HB1 := Lib.hid hb1
  clear hw1 hb1
  obtain ⟨z_4, T_4, F_4⟩ := K4.open_
  clear K4
  go_wp2_with (go_at_call 52; (refine (e_variable HBW.out HBB.out HC1.out sl HSL.out HSN.out hs32 ⟨2, num, nm, A, n, cap⟩ s HF.out (by have := HL.out; simp only [List.length_cons, List.length_nil] at this; omega)).mono ?_; rintro e w2 ⟨q2, rfl, hc_, he_⟩; have HC2 := Lib.hid hc_; have HE2 := Lib.hid (Emt.pre HB1.out he_); clear hc_ he_))
  refine bodyPost_end (results_none rfl _ _ _) rfl ?_
  first | exact ⟨rfl, q2, HC2.out, HE2.out⟩ | exact ⟨q2, rfl, HC2.out, HE2.out⟩
theorem x_stk {wB : World} {B cb : Nat} {F : Option Addr} {nf cf : Nat} {cc ss : Int} (hBw : B ≤ wB.heap.size) (sl : List St4) (hsl : SlotsAt wB B F sl) (hsn : sl.length = nf) (hs32 : nf ≤ 1000000) (x : Nd) (hk : x.k = 4 ∨ x.k = 5) (s : St4) (hf : sl.find? (slotB x.nm 3) = some s) (M : Int) : ExprAt wB B cb F nf cf cc ss M (fun _ => [⟨if x.k = 5 then 15 else 14, 1, s.pos, 0, 0⟩, ⟨12, 1, 0, 0, 0⟩]) x := by
  intro w p l q hb hC hp0 hp1 hl
  have HBW := Lib.hid hBw; have HSL := Lib.hid hsl; have HSN := Lib.hid hsn; have HF := Lib.hid hf; have HL := Lib.hid hl; have HC := Lib.hid hC; have HB := Lib.hid hb; have HKD := Lib.hid hk
  obtain ⟨k, num, nm, A, n, cap⟩ := x
  dsimp only at *
  rcases hk with rfl | rfl
  · clear hBw hsl hsn hf hl hC hb hp0 hp1
    go_enter Tryd.func28, Tryd.ntmps28
    go_upto_region 1 with fail
    refine wp_nameE ?_
    intro w1 hw1
    have hb1 : Below w.heap.size w w1 := by rw [hw1]; exact (by go_grown)
    have K4 : Blk w1 w.heap.size 24 #[.int .u8 4, .int .i64 num, .string nm, .slice A n cap] := by rw [hw1]; exact (by repeat' (first | assumption | exact Blk.new' (by simp) _ _ | apply Blk.alloc | apply Blk.drew))
    have HC1 := Lib.hid (HC.out.next hb1)
    have HBB := Lib.hid (HB.out.trans (hb1.mono (by have := HB.out.size; have := HBW.out; omega)))
    have HB1 := Lib.hid hb1
    clear hw1 hb1
    obtain ⟨z_4, T_4, F_4⟩ := K4.open_
    clear K4
    go_wp2_with (go_at_call 54; (refine (e_stack HBW.out HBB.out HC1.out sl HSL.out HSN.out hs32 ⟨4, num, nm, A, n, cap⟩ HKD.out s HF.out (by have := HL.out; simp only [List.length_cons, List.length_nil] at this; omega)).mono ?_; rintro e w2 ⟨q2, rfl, hc_, he_⟩; have HC2 := Lib.hid hc_; have HE2 := Lib.hid (Emt.pre HB1.out he_); clear hc_ he_))
    refine bodyPost_end (results_none rfl _ _ _) rfl ?_
    first | exact ⟨rfl, q2, HC2.out, HE2.out⟩ | exact ⟨q2, rfl, HC2.out, HE2.out⟩
  · clear hBw hsl hsn hf hl hC hb hp0 hp1
    go_enter Tryd.func28, Tryd.ntmps28
    go_upto_region 1 with fail
    refine wp_nameE ?_
    intro w1 hw1
    have hb1 : Below w.heap.size w w1 := by rw [hw1]; exact (by go_grown)
    have K4 : Blk w1 w.heap.size 24 #[.int .u8 5, .int .i64 num, .string nm, .slice A n cap] := by rw [hw1]; exact (by repeat' (first | assumption | exact Blk.new' (by simp) _ _ | apply Blk.alloc | apply Blk.drew))
    have HC1 := Lib.hid (HC.out.next hb1)
    have HBB := Lib.hid (HB.out.trans (hb1.mono (by have := HB.out.size; have := HBW.out; omega)))
    have HB1 := Lib.hid hb1
    clear hw1 hb1
    obtain ⟨z_4, T_4, F_4⟩ := K4.open_
    clear K4
    go_wp2_with (go_at_call 54; (refine (e_stack HBW.out HBB.out HC1.out sl HSL.out HSN.out hs32 ⟨5, num, nm, A, n, cap⟩ HKD.out s HF.out (by have := HL.out; simp only [List.length_cons, List.length_nil] at this; omega)).mono ?_; rintro e w2 ⟨q2, rfl, hc_, he_⟩; have HC2 := Lib.hid hc_; have HE2 := Lib.hid (Emt.pre HB1.out he_); clear hc_ he_))
    refine bodyPost_end (results_none rfl _ _ _) rfl ?_
    first | exact ⟨rfl, q2, HC2.out, HE2.out⟩ | exact ⟨q2, rfl, HC2.out, HE2.out⟩
theorem x_item {wB : World} {B cb : Nat} {F : Option Addr} {nf cf : Nat} {cc ss : Int} (hBw : B ≤ wB.heap.size) (hBc : B ≤ cb) (sl : List St4) (hsl : SlotsAt wB B F sl) (hsn : sl.length = nf) (hs32 : nf ≤ 1000000) {M : Int} {C : Int → Prg} {x y : Nd} (hk : x.k = 3) (hn : x.n = 1) (hky : Kid wB B x 0 y) (IH : ExprAt wB B cb F nf cf cc ss M C y) (s : St4) (hf : sl.find? (slotB x.nm 2) = some s) (hM : M ≤ 1000000) : ExprAt wB B cb F nf cf cc ss M (fun p => C p ++ [⟨13, 1, 0, 0, 0⟩, ⟨11, 2, 1, s.pos, s.len⟩, ⟨3, 3, 2, 0, 0⟩, ⟨11, 2, 1, s.pos, s.len⟩, ⟨12, 1, 0, 0, 0⟩, ⟨12, 3, 0, 0, 0⟩]) x := by
  intro w p l q hb hC hp0 hp1 hl
  have HBW := Lib.hid hBw; have HBC := Lib.hid hBc; have HL := Lib.hid hl; have HC := Lib.hid hC; have HB := Lib.hid hb; have HP0 := Lib.hid hp0; have HP1 := Lib.hid hp1
  have HSL := Lib.hid hsl; have HSN := Lib.hid hsn; have HF := Lib.hid hf; have HKY := Lib.hid hky; have HIH := Lib.hid IH
  obtain ⟨k, num, nm, A, n, cap⟩ := x
  dsimp only at *
  subst hk hn
  clear hBw hBc hsl hsn hf hl hC hb hp0 hp1 hky IH
  go_enter Tryd.func28, Tryd.ntmps28
  go_upto_region 1 with fail
  refine wp_nameE ?_
  intro w1 hw1
  have hb1 : Below w.heap.size w w1 := by rw [hw1]; exact (by go_grown)
  have K4 : Blk w1 w.heap.size 24 #[.int .u8 3, .int .i64 num, .string nm, .slice A 1 cap] := by rw [hw1]; exact (by repeat' (first | assumption | exact Blk.new' (by simp) _ _ | apply Blk.alloc | apply Blk.drew))
  have HC1 := Lib.hid (HC.out.next hb1)
  have HBB := Lib.hid (HB.out.trans (hb1.mono (by have := HB.out.size; have := HBW.out; omega)))
  have HB1 := Lib.hid hb1
  have HE1 := Lib.hid (Emt.next (Emt.refl cb w q) hb1)
  clear hw1 hb1
  obtain ⟨z_4, T_4, F_4⟩ := K4.open_
  clear K4
  go_wp2_with (go_at_call 53; (refine (e_item HBW.out HBC.out sl HSL.out HSN.out hs32 (x := ⟨3, num, nm, A, 1, cap⟩) rfl HKY.out HIH.out s HF.out w1 p l q HBB.out HC1.out HP0.out HP1.out (by have := HL.out; simp only [List.length_append] at this; omega)).mono ?_; rintro e w2 ⟨q2, rfl, hc_, he_⟩; have HC2 := Lib.hid hc_; have HE2 := Lib.hid (Emt.pre HB1.out he_); clear hc_ he_))
  refine bodyPost_end (results_none rfl _ _ _) rfl ?_
  first | exact ⟨rfl, q2, HC2.out, HE2.out⟩ | exact ⟨q2, rfl, HC2.out, HE2.out⟩ | (refine ⟨rfl, q2, ?_, HE2.out⟩; have := HC2.out; simpa using this)
theorem x_un {wB : World} {B cb : Nat} {F : Option Addr} {nf cf : Nat} {cc ss : Int} (hBw : B ≤ wB.heap.size) (hBc : B ≤ cb) {M : Int} {C : Int → Prg} {x y : Nd} (hk : x.k = 6 ∨ x.k = 7) (hn : x.n = 1) (hky : Kid wB B x 0 y) (IH : ExprAt wB B cb F nf cf cc ss M C y) : ExprAt wB B cb F nf cf cc ss M (fun p => C p ++ [⟨13, 1, 0, 0, 0⟩] ++ (if x.k = 6 then [⟨3, 3, 1, 0, 0⟩, ⟨8, 3, 0, 0, 0⟩] else [⟨9, 3, 1, 2, 16⟩]) ++ [⟨12, 1, 0, 0, 0⟩, ⟨12, 3, 0, 0, 0⟩]) x := by
  intro w p l q hb hC hp0 hp1 hl
  have HBW := Lib.hid hBw; have HBC := Lib.hid hBc; have HL := Lib.hid hl; have HC := Lib.hid hC; have HB := Lib.hid hb; have HP0 := Lib.hid hp0; have HP1 := Lib.hid hp1
  have HKY := Lib.hid hky; have HIH := Lib.hid IH; have HKD := Lib.hid hk
  obtain ⟨k, num, nm, A, n, cap⟩ := x
  dsimp only at *
  subst hn
  clear hBw hBc hl hC hb hp0 hp1 hky IH
  rcases hk with rfl | rfl
  · go_enter Tryd.func28, Tryd.ntmps28
    go_upto_region 1 with fail
    refine wp_nameE ?_
    intro w1 hw1
    have hb1 : Below w.heap.size w w1 := by rw [hw1]; exact (by go_grown)
    have K4 : Blk w1 w.heap.size 24 #[.int .u8 6, .int .i64 num, .string nm, .slice A 1 cap] := by rw [hw1]; exact (by repeat' (first | assumption | exact Blk.new' (by simp) _ _ | apply Blk.alloc | apply Blk.drew))
    have HC1 := Lib.hid (HC.out.next hb1)
    have HBB := Lib.hid (HB.out.trans (hb1.mono (by have := HB.out.size; have := HBW.out; omega)))
    have HB1 := Lib.hid hb1
    have HE1 := Lib.hid (Emt.next (Emt.refl cb w q) hb1)
    clear hw1 hb1
    obtain ⟨z_4, T_4, F_4⟩ := K4.open_
    clear K4
    go_wp2_with (go_at_call 55; (refine (e_unary HBW.out HBC.out (x := ⟨6, num, nm, A, 1, cap⟩) HKD.out rfl HKY.out HIH.out w1 p l q HBB.out HC1.out HP0.out HP1.out (by have := HL.out; simp only [List.length_append] at this; omega)).mono ?_; rintro e w2 ⟨q2, rfl, hc_, he_⟩; have HC2 := Lib.hid hc_; have HE2 := Lib.hid (Emt.pre HB1.out he_); clear hc_ he_))
    refine bodyPost_end (results_none rfl _ _ _) rfl ?_
    first | exact ⟨rfl, q2, HC2.out, HE2.out⟩ | exact ⟨q2, rfl, HC2.out, HE2.out⟩ | (refine ⟨rfl, q2, ?_, HE2.out⟩; have := HC2.out; simpa using this)
  · go_enter Tryd.func28, Tryd.ntmps28
    go_upto_region 1 with fail
    refine wp_nameE ?_
    intro w1 hw1
    have hb1 : Below w.heap.size w w1 := by rw [hw1]; exact (by go_grown)
    have K4 : Blk w1 w.heap.size 24 #[.int .u8 7, .int .i64 num, .string nm, .slice A 1 cap] := by rw [hw1]; exact (by repeat' (first | assumption | exact Blk.new' (by simp) _ _ | apply Blk.alloc | apply Blk.drew))
    have HC1 := Lib.hid (HC.out.next hb1)
    have HBB := Lib.hid (HB.out.trans (hb1.mono (by have := HB.out.size; have := HBW.out; omega)))
    have HB1 := Lib.hid hb1
    have HE1 := Lib.hid (Emt.next (Emt.refl cb w q) hb1)
    clear hw1 hb1
    obtain ⟨z_4, T_4, F_4⟩ := K4.open_
    clear K4
    go_wp2_with (go_at_call 55; (refine (e_unary HBW.out HBC.out (x := ⟨7, num, nm, A, 1, cap⟩) HKD.out rfl HKY.out HIH.out w1 p l q HBB.out HC1.out HP0.out HP1.out (by have := HL.out; simp only [List.length_append] at this; omega)).mono ?_; rintro e w2 ⟨q2, rfl, hc_, he_⟩; have HC2 := Lib.hid hc_; have HE2 := Lib.hid (Emt.pre HB1.out he_); clear hc_ he_))
    refine bodyPost_end (results_none rfl _ _ _) rfl ?_
    first | exact ⟨rfl, q2, HC2.out, HE2.out⟩ | exact ⟨q2, rfl, HC2.out, HE2.out⟩ | (refine ⟨rfl, q2, ?_, HE2.out⟩; have := HC2.out; simpa using this)
theorem x_bin {wB : World} {B cb : Nat} {F : Option Addr} {nf cf : Nat} {cc ss : Int} (hBw : B ≤ wB.heap.size) (hBc : B ≤ cb) (hcc0 : 0 ≤ cc) (hcc1 : cc ≤ 1000000) {M : Int} {C D : Int → Prg} {x y z : Nd} (hk : 8 ≤ x.k ∧ x.k ≤ 23) (hn : x.n = 2) (hky : Kid wB B x 0 y) (hkz : Kid wB B x 1 z) (IH : ExprAt wB B cb F nf cf cc ss M C y) (JH : ExprAt wB B cb F nf cf cc ss (M + 1) D z) (hM : M + 1 ≤ 1000000) : ExprAt wB B cb F nf cf cc ss M (fun p => C p ++ [⟨13, 1, 0, 0, 0⟩, ⟨10, 1, cc + p, 0, 0⟩] ++ D (p + 1) ++ [⟨13, 2, 0, 0, 0⟩, ⟨10, 1, cc + p, 0, 0⟩, ⟨9, 3, 1, 2, x.k⟩, ⟨12, 1, 0, 0, 0⟩, ⟨12, 2, 0, 0, 0⟩, ⟨12, 3, 0, 0, 0⟩]) x := by
  intro w p l q hb hC hp0 hp1 hl
  have HBW := Lib.hid hBw; have HBC := Lib.hid hBc; have HL := Lib.hid hl; have HC := Lib.hid hC; have HB := Lib.hid hb; have HP0 := Lib.hid hp0; have HP1 := Lib.hid hp1
  have HKY := Lib.hid hky; have HKZ := Lib.hid hkz; have HIH := Lib.hid IH; have HJH := Lib.hid JH; have HKD := Lib.hid hk
  obtain ⟨k, num, nm, A, n, cap⟩ := x
  dsimp only at *
  subst hn
  have y1 : ¬ k = 1 := by omega
  have y2 : ¬ k = 2 := by omega
  have y3 : ¬ k = 3 := by omega
  have y4 : ¬ k = 4 := by omega
  have y5 : ¬ k = 5 := by omega
  have y6 : ¬ k = 6 := by omega
  have y7 : ¬ k = 7 := by omega
  clear hBw hBc hl hC hb hp0 hp1 hky hkz IH JH hk
  go_enter Tryd.func28, Tryd.ntmps28
  go_upto_region 1 with fail
  refine wp_nameE ?_
  intro w1 hw1
  have hb1 : Below w.heap.size w w1 := by rw [hw1]; exact (by go_grown)
  have K4 : Blk w1 w.heap.size 24 #[.int .u8 k, .int .i64 num, .string nm, .slice A 2 cap] := by rw [hw1]; exact (by repeat' (first | assumption | exact Blk.new' (by simp) _ _ | apply Blk.alloc | apply Blk.drew))
  have HC1 := Lib.hid (HC.out.next hb1)
  have HBB := Lib.hid (HB.out.trans (hb1.mono (by have := HB.out.size; have := HBW.out; omega)))
  have HB1 := Lib.hid hb1
  have HE1 := Lib.hid (Emt.next (Emt.refl cb w q) hb1)
  clear hw1 hb1
  obtain ⟨z_4, T_4, F_4⟩ := K4.open_
  clear K4
  go_wp2_with (go_at_call 56; (refine (e_binary HBW.out HBC.out hcc0 hcc1 (x := ⟨k, num, nm, A, 2, cap⟩) HKD.out rfl HKY.out HKZ.out hM HIH.out HJH.out w1 p l q HBB.out HC1.out HP0.out HP1.out (by have := HL.out; simp only [List.length_append, List.length_cons, List.length_nil] at this; omega)).mono ?_; rintro e w2 ⟨q2, rfl, hc_, he_⟩; have HC2 := Lib.hid hc_; have HE2 := Lib.hid (Emt.pre HB1.out he_); clear hc_ he_))
  refine bodyPost_end (results_none rfl _ _ _) rfl ?_
  first | exact ⟨rfl, q2, HC2.out, HE2.out⟩ | exact ⟨q2, rfl, HC2.out, HE2.out⟩ | (refine ⟨rfl, q2, ?_, HE2.out⟩; have := HC2.out; simpa using this)
theorem x_num {wB : World} {B cb : Nat} {F : Option Addr} {nf cf : Nat} {cc ss : Int} (hBw : B ≤ wB.heap.size) (hBc : B ≤ cb) {M : Int} {x : Nd} (hk : x.k = 1) : ExprAt wB B cb F nf cf cc ss M (fun _ => [⟨6, 1, x.num, 0, 0⟩, ⟨12, 1, 0, 0, 0⟩]) x := by
  intro w p l q hb hC hp0 hp1 hl
  have HBW := Lib.hid hBw; have HBC := Lib.hid hBc; have HL := Lib.hid hl; have HC := Lib.hid hC; have HB := Lib.hid hb; have HP0 := Lib.hid hp0; have HP1 := Lib.hid hp1
  obtain ⟨k, num, nm, A, n, cap⟩ := x
  dsimp only at *
  subst hk
  clear hBw hBc hl hC hb hp0 hp1
  go_enter Tryd.func28, Tryd.ntmps28
  go_upto_region 1 with fail
  refine wp_nameE ?_
  intro w1 hw1
  have hb1 : Below w.heap.size w w1 := by rw [hw1]; exact (by go_grown)
  have K4 : Blk w1 w.heap.size 24 #[.int .u8 1, .int .i64 num, .string nm, .slice A n cap] := by rw [hw1]; exact (by repeat' (first | assumption | exact Blk.new' (by simp) _ _ | apply Blk.alloc | apply Blk.drew))
  have HC1 := Lib.hid (HC.out.next hb1)
  have HBB := Lib.hid (HB.out.trans (hb1.mono (by have := HB.out.size; have := HBW.out; omega)))
  have HB1 := Lib.hid hb1
  have HE1 := Lib.hid (Emt.next (Emt.refl cb w q) hb1)
  clear hw1 hb1
  obtain ⟨z_4, T_4, F_4⟩ := K4.open_
  clear K4
  go_upto_region 4 with fail
  go_wp2_with (first | (go_at_call 30; ((with_reducible refine (e_instr2 6 (1) (num) _ _ _ (Blk.new w1 _ _)).mono ?_); rintro e w1_0 ⟨rfl, hb_⟩; have hB1_0 : Below w1.heap.size w1 w1_0 := Below.next (by go_grown) hb_; clear hb_)) | (go_at_call 30; ((with_reducible refine (e_instr2 12 (1) (0) _ _ _ (Blk.new w1_0 _ _)).mono ?_); rintro e w1_1 ⟨rfl, hb_⟩; have hB1_1 : Below w1.heap.size w1 w1_1 := (hB1_0.next (by go_grown)).next hb_; clear hb_)) | (go_at_call 29; (refine calls_nameE ?_; intro wE hE; have hBE : Below w1.heap.size w1 wE := (by rw [hE]; exact hB1_1.next (by go_grown)); have KE : Blk wE w1_1.heap.size 42 (codeCells [⟨6, 1, num, 0, 0⟩, ⟨12, 1, 0, 0, 0⟩]).toArray := (by (subst hE; exact Blk.new _ _ _)); clear hE; refine (e_emit (HC1.out.next hBE) w1_1.heap.size 2 42 [⟨6, 1, num, 0, 0⟩, ⟨12, 1, 0, 0, 0⟩] KE rfl (by (have := HL.out; simp only [List.length_append, List.length_cons, List.length_nil] at this; omega))).mono ?_; rintro e w2 ⟨q2, rfl, hc_, he_⟩; have HC2 := Lib.hid hc_; have HE2 := Lib.hid (HE1.out.trans (Emt.pre hBE he_)); clear hc_ he_ KE hBE)))
  refine bodyPost_end (results_none rfl _ _ _) rfl ?_
  first | exact ⟨rfl, q2, HC2.out, HE2.out⟩ | exact ⟨q2, rfl, HC2.out, HE2.out⟩ | (refine ⟨rfl, q2, ?_, HE2.out⟩; have := HC2.out; simpa using this)
end Go.Proofs.YtbijhlgdilkopaaDoor

/- coder.expr emits the code of the expression. -/
set_option linter.unusedVariables false
namespace Go.Proofs.YtbijhlgdilkopaaDoor
open Go.RowKit Bk
theorem e_expr {wB : World} {B cb : Nat} {F : Option Addr} {nf cf : Nat} {cc ss : Int} (hBw : B ≤ wB.heap.size) (hBc : B ≤ cb) (hcc0 : 0 ≤ cc) (hcc1 : cc ≤ 1000000) (sl : List St4) (hsl : SlotsAt wB B F sl) (hsn : sl.length = nf) (hs32 : nf ≤ 1000000) : ∀ e : Ex, e.held sl → ∀ M : Int, M + e.dp ≤ 1000000 → ∀ x, EV wB B nameB e x → ExprAt wB B cb F nf cf cc ss M (comp sl cc e) x := by
  intro e
  induction e with
  | num v =>
    intro hh M hM x hx
    obtain ⟨h1, h2, _⟩ := hx
    have h := x_num hBw hBc (F := F) (nf := nf) (cf := cf) (cc := cc) (ss := ss) (M := M) h1
    rw [h2] at h
    have e : comp sl cc (.num v) = fun _ => [⟨6, 1, v, 0, 0⟩, ⟨12, 1, 0, 0, 0⟩] := by funext p; simp only [comp]
    rw [e]; exact h
  | var s =>
    intro hh M hM x hx
    obtain ⟨h1, _, h3, _⟩ := hx
    obtain ⟨t, ht⟩ := (Ex.held_kids hh).1 (by simp [Ex.vk])
    simp only [Ex.nam, Ex.vk] at ht
    have e : comp sl cc (.var s) = fun _ => [⟨10, 1, t.pos, 0, 0⟩, ⟨3, 2, 1, 0, 0⟩, ⟨10, 1, t.pos, 0, 0⟩, ⟨12, 2, 0, 0, 0⟩] := by funext p; simp only [comp, slot_of ht]
    rw [e]
    exact x_var hBw sl hsl hsn hs32 x h1 t (by rw [h3]; exact ht) M
  | top s =>
    intro hh M hM x hx
    obtain ⟨h1, _, h3, _⟩ := hx
    obtain ⟨t, ht⟩ := (Ex.held_kids hh).1 (by simp [Ex.vk])
    simp only [Ex.nam, Ex.vk] at ht
    have h := x_stk hBw (cb := cb) (cf := cf) (cc := cc) (ss := ss) sl hsl hsn hs32 x (.inl h1) t (by rw [h3]; exact ht) M
    have e : comp sl cc (.top s) = fun _ => [⟨if x.k = 5 then 15 else 14, 1, t.pos, 0, 0⟩, ⟨12, 1, 0, 0, 0⟩] := by funext p; simp only [comp, slot_of ht, h1]; rfl
    rw [e]; exact h
  | size s =>
    intro hh M hM x hx
    obtain ⟨h1, _, h3, _⟩ := hx
    obtain ⟨t, ht⟩ := (Ex.held_kids hh).1 (by simp [Ex.vk])
    simp only [Ex.nam, Ex.vk] at ht
    have h := x_stk hBw (cb := cb) (cf := cf) (cc := cc) (ss := ss) sl hsl hsn hs32 x (.inr h1) t (by rw [h3]; exact ht) M
    have e : comp sl cc (.size s) = fun _ => [⟨if x.k = 5 then 15 else 14, 1, t.pos, 0, 0⟩, ⟨12, 1, 0, 0, 0⟩] := by funext p; simp only [comp, slot_of ht, h1]; rfl
    rw [e]; exact h
  | item s a ih =>
    intro hh M hM x hx
    obtain ⟨h1, _, h3, _, hn, y, hky, hy⟩ := hx
    obtain ⟨t, ht⟩ := (Ex.held_kids hh).1 (by simp [Ex.vk])
    simp only [Ex.nam, Ex.vk] at ht
    simp only [Ex.dp] at hM
    have h := x_item hBw hBc sl hsl hsn hs32 h1 hn hky (ih ((Ex.held_kids hh).2 a (by simp [Ex.kids])) M (by omega) y hy) t (by rw [h3]; exact ht) (by omega)
    have e : comp sl cc (.item s a) = fun p => comp sl cc a p ++ [⟨13, 1, 0, 0, 0⟩, ⟨11, 2, 1, t.pos, t.len⟩, ⟨3, 3, 2, 0, 0⟩, ⟨11, 2, 1, t.pos, t.len⟩, ⟨12, 1, 0, 0, 0⟩, ⟨12, 3, 0, 0, 0⟩] := by funext p; simp only [comp, slot_of ht]
    rw [e]; exact h
  | un op a ih =>
    intro hh M hM x hx
    obtain ⟨h1, h2, _, _, hn, y, hky, hy⟩ := hx
    simp only [Ex.dp] at hM
    have h := x_un hBw hBc (x := x) (by rw [h1]; exact h2) hn hky (ih ((Ex.held_kids hh).2 a (by simp [Ex.kids])) M (by omega) y hy)
    rw [h1] at h
    have e : comp sl cc (.un op a) = fun p => comp sl cc a p ++ [⟨13, 1, 0, 0, 0⟩] ++ (if op = 6 then [⟨3, 3, 1, 0, 0⟩, ⟨8, 3, 0, 0, 0⟩] else [⟨9, 3, 1, 2, 16⟩]) ++ [⟨12, 1, 0, 0, 0⟩, ⟨12, 3, 0, 0, 0⟩] := by funext p; simp only [comp]
    rw [e]; exact h
  | bin op a b iha ihb =>
    intro hh M hM x hx
    obtain ⟨h1, h2, _, _, hn, y, z, hky, hkz, hy, hz⟩ := hx
    simp only [Ex.dp] at hM
    have h := x_bin hBw hBc hcc0 hcc1 (x := x) (by rw [h1]; exact h2) hn hky hkz (iha ((Ex.held_kids hh).2 a (by simp [Ex.kids])) M (by omega) y hy) (ihb ((Ex.held_kids hh).2 b (by simp [Ex.kids])) (M + 1) (by omega) z hz) (by omega)
    rw [h1] at h
    have e : comp sl cc (.bin op a b) = fun p => comp sl cc a p ++ [⟨13, 1, 0, 0, 0⟩, ⟨10, 1, cc + p, 0, 0⟩] ++ comp sl cc b (p + 1) ++ [⟨13, 2, 0, 0, 0⟩, ⟨10, 1, cc + p, 0, 0⟩, ⟨9, 3, 1, 2, op⟩, ⟨12, 1, 0, 0, 0⟩, ⟨12, 2, 0, 0, 0⟩, ⟨12, 3, 0, 0, 0⟩] := by funext p; simp only [comp]
    rw [e]; exact h
end Go.Proofs.YtbijhlgdilkopaaDoor

/- exprgen.Compute: an expression held by the slots is compiled. -/
set_option linter.unusedVariables false
set_option linter.unusedSimpArgs false
set_option maxRecDepth 100000
set_option maxHeartbeats 4000000
namespace Go.Proofs.YtbijhlgdilkopaaDoor
open Go.RowKit Bk
theorem e_Compute {w : World} {B d : Nat} (hBw : B ≤ w.heap.size) {F : Option Addr} {nf cf : Nat} {cc ss : Int} (hcc0 : 0 ≤ cc) (hcc1 : cc ≤ 1000000) (sl : List St4) (hsl : SlotsAt w B F sl) (hsn : sl.length = nf) (hs32 : nf ≤ 1000000) (e : Ex) (hh : e.held sl) (hsz : e.sz ≤ 1000) (x : Nd) (hx : EV w B nameB e x) (hkv : KV w B d x) (hdp : cc + e.dp ≤ 16384) (w' : World) (hb : Below B w w') :
    Calls Tryd.prog 11 #[.agg #[.int .u8 x.k, .int .i64 x.num, .string x.nm, .slice x.A x.n x.cap], .agg #[.slice F nf cf, .int .i64 cc, .int .i64 ss]] w' fun en w'' => ∃ v, en = .returned (.tuple #[v, .int .i64 0]) ∧ w''.ownsRow w'.heap.size 42 5 v (comp sl cc e 0).length (codeCells (comp sl cc e 0)) ∧ Below w'.heap.size w' w'' := by
  have HIS : Hid (∀ V, Below B w V → Calls Tryd.prog 22 #[.agg #[.int .u8 x.k, .int .i64 x.num, .string x.nm, .slice x.A x.n x.cap]] V fun en w'' => en = .returned (.bool true) ∧ Below V.heap.size V w'') := Lib.hid fun V hV => e_IsExpr hBw d x hkv V hV true ⟨fun _ => ⟨e, hx⟩, fun _ => rfl⟩
  have HST : Hid (∀ V, Below B w V → Calls Tryd.prog 27 #[.agg #[.int .u8 x.k, .int .i64 x.num, .string x.nm, .slice x.A x.n x.cap], .agg #[.slice F nf cf, .int .i64 cc, .int .i64 ss]] V fun en w'' => en = .returned (.bool true) ∧ Below V.heap.size V w'') := Lib.hid fun V hV => e_stored hBw F nf cf cc ss sl hsl hsn hs32 e hh x hx V hV
  have HDP : Hid (∀ V, Below B w V → Calls Tryd.prog 23 #[.agg #[.int .u8 x.k, .int .i64 x.num, .string x.nm, .slice x.A x.n x.cap]] V fun en w'' => en = .returned (.int .i64 (e.dp : Int)) ∧ Below V.heap.size V w'') := Lib.hid fun V hV => e_Depth hBw e (by omega) x hx V hV
  have HEX : Hid (∀ cb, B ≤ cb → ExprAt w B cb F nf cf cc ss 0 (comp sl cc e) x) := Lib.hid fun cb hcb => e_expr hBw hcb hcc0 hcc1 sl hsl hsn hs32 e hh 0 (by have := e.dp_le; omega) x hx
  have HB := Lib.hid hb; have HLEN := Lib.hid (comp_length sl cc e 0)
  obtain ⟨k, num, nm, A, n, cap⟩ := x
  dsimp only at *
  clear hx hkv hb hsl hsn hh
  go_enter Tryd.func11, Tryd.ntmps11
  go_upto_region 1 with fail
  refine wp_nameE ?_
  intro w1 hw1
  have hb1 : Below w'.heap.size w' w1 := by rw [hw1]; exact (by go_grown)
  have K2 : Blk w1 w'.heap.size 24 #[.int .u8 k, .int .i64 num, .string nm, .slice A n cap] := by rw [hw1]; exact (by repeat' (first | assumption | exact Blk.new' (by simp) _ _ | apply Blk.alloc | apply Blk.drew))
  have K3 : Blk w1 (w'.heap.size + 1) 35 #[.slice F nf cf, .int .i64 cc, .int .i64 ss] := by rw [hw1]; exact Blk.new' (by simp) _ _
  have HBB := Lib.hid (HB.out.trans (hb1.mono (by have := HB.out.size; omega)))
  clear hw1
  have HK2 := Lib.hid K2; have HK3 := Lib.hid K3; have HB1 := Lib.hid hb1
  obtain ⟨z_2, T_2, F_2⟩ := K2.open_
  clear K2 K3 hb1
  go_upto_region 3 with (go_at_call 22; ((with_reducible refine (HIS.out w1 HBB.out).mono ?_); rintro en w2 ⟨rfl, hb2⟩))
  have HBB2 := Lib.hid (HBB.out.trans (hb2.mono (by have := HBB.out.size; omega)))
  have K2 := HK2.out.next hb2
  have K3 := HK3.out.next hb2
  clear T_2 F_2 z_2
  obtain ⟨z_2, T_2, F_2⟩ := K2.open_
  obtain ⟨z_3, T_3, F_3⟩ := K3.open_
  have HB2 := Lib.hid hb2
  clear K2 K3 hb2
  go_upto_region 5 with (go_at_call 27; ((with_reducible refine (HST.out w2 HBB2.out).mono ?_); rintro en w3 ⟨rfl, hb3⟩))
  have HB3 := Lib.hid (HB2.out.next hb3)
  have HBB3 := Lib.hid (HBB2.out.trans (hb3.mono (by have := HBB2.out.size; omega)))
  have K2 := Lib.hid (HK2.out.next (HB3.out)); have K3 := Lib.hid (HK3.out.next (HB3.out))
  have dp0 : (0 : Int) ≤ e.dp := by omega
  have dp1 : (e.dp : Int) ≤ 1000 := by have := e.dp_le; omega
  obtain ⟨dp, hdpe⟩ : ∃ dp : Int, (e.dp : Int) = dp := ⟨_, rfl⟩
  have HDP' : Hid (∀ V, Below B w V → Calls Tryd.prog 23 #[.agg #[.int .u8 k, .int .i64 num, .string nm, .slice A n cap]] V fun en w'' => en = .returned (.int .i64 dp) ∧ Below V.heap.size V w'') := by rw [← hdpe]; exact HDP
  rw [hdpe] at dp0 dp1 hdp
  have hs : IntKind.i64.wrap (16384 - dp) = 16384 - dp := wrap_small _ (by omega) (by omega)
  have hg : ¬ (cc > 16384 - dp) := by omega
  clear T_2 F_2 z_2 T_3 F_3 z_3 HDP hb3 hdpe
  refine wp_region_grow (by kernel_rfl) (by kernel_rfl) ?_
  intro W hW
  have hneW : Nonempty (Grw W) := ⟨⟨W, Below.refl _ _⟩⟩
  have HBz := Lib.hid (fun z => HBB3.out.trans ((show Below w3.heap.size w3 (grow W z) by rw [← hW]; exact grow_below W z).mono (by have := HBB3.out.size; omega)))
  have t2 := fun z => (K2.out.next (w' := grow W z) (by rw [← hW]; exact grow_below W z)).cell
  have t3 := fun z => (K3.out.next (w' := grow W z) (by rw [← hW]; exact grow_below W z)).cell
  have HW := Lib.hid hW; clear hW
  repeat (go_big_quiet_step ((go_at_call 23; with_reducible exact quiet_grow (HDP'.out _ (HBz.out _)))))
  clear t2 t3
  refine wpQuiet_nil ?_
  rintro _ ⟨z, rfl⟩
  have hb5 : Below w3.heap.size w3 (grow W z) := by rw [← HW.out]; exact grow_below W z
  have hbb5 := HBz.out z
  generalize grow W z = w5 at hb5 hbb5 ⊢
  have K2' := K2.out.next hb5; have K3' := K3.out.next hb5
  have HBB5 := Lib.hid hbb5
  have HB5 := Lib.hid (HB3.out.next hb5)
  clear HW HBz hneW hb5 hbb5
  obtain ⟨z_2, T_2, F_2⟩ := K2'.open_
  obtain ⟨z_3, T_3, F_3⟩ := K3'.open_
  have HK2' := Lib.hid K2'
  clear K2' K3'
  go_upto_region 7 with fail
  go_upto_region 8 with fail
  refine wp_nameE ?_
  intro w6 hw6
  have hb6 : Below w5.heap.size w5 w6 := by rw [hw6]; exact (by go_grown)
  have KC : Blk w6 w5.heap.size 78 #[.slice F nf cf, .int .i64 cc, .int .i64 ss, .slice none 0 0] := by rw [hw6]; exact (by repeat' (first | assumption | exact Blk.new' (by simp) _ _ | apply Blk.alloc | apply Blk.drew))
  have K2 := HK2'.out.next hb6
  have HBB6 := Lib.hid (HBB5.out.trans (hb6.mono (by have := HBB5.out.size; omega)))
  have HB6 := Lib.hid (HB1.out.next (HB5.out.next hb6))
  have hcod : Cod w6 w5.heap.size F nf cf cc ss (.slice none 0 0) [] := ⟨KC, World.ownsRow_nil _ _ _ _⟩
  have HCOD := Lib.hid hcod
  have hcb : B ≤ w5.heap.size := by have := HBB5.out.size; omega
  have hcb2 : w'.heap.size ≤ w5.heap.size := by have := HB1.out.size; have := HB5.out.size; omega
  clear hw6 hb6 KC T_2 F_2 z_2 T_3 F_3 z_3 hcod HK2'
  obtain ⟨z_2, T_2, F_2⟩ := K2.open_
  clear K2
  go_upto_region 9 with (go_at_call 28; (refine (HEX.out w5.heap.size hcb w6 0 [] _ HBB6.out HCOD.out (by decide) (by decide) (by have := HLEN.out; simp only [List.length_nil]; omega)).mono ?_; rintro en w7 ⟨q7, rfl, hc7, he7⟩))
  have hbe := HB6.out.trans (he7.below hcb2 HCOD.out)
  have hown := own_lowE hc7.own (base' := w'.heap.size) (by omega)
  have HBE := Lib.hid hbe; have HOWN := Lib.hid hown
  have KC := hc7.blk
  obtain ⟨A7, c7, rfl⟩ := own_form hc7.own
  clear T_2 F_2 z_2 hbe hown hc7 he7
  obtain ⟨z_6, T_6, F_6⟩ := KC.open_
  clear KC
  go_wp2_with fail
  refine bodyPost_ret_by (results_tmp2 rfl _ _ _) rfl ?_
  exact ⟨_, rfl, HOWN.out, HBE.out⟩
end Go.Proofs.YtbijhlgdilkopaaDoor

/- exprgen.Uncompute: the inverse of code without targets. -/
set_option linter.unusedVariables false
set_option linter.unusedSimpArgs false
set_option maxRecDepth 100000
set_option maxHeartbeats 4000000
namespace Bk
theorem unl_take (l : Prg) {n j : Nat} (hn : n = l.length) (hj : j < n) : (unl l).take (j + 1) = (unl l).take j ++ [(l.getD (n - 1 - j) default).inverse] := by
  have hlt : j < (unl l).length := by rw [unl_length]; omega
  rw [List.take_succ_eq_append_getElem hlt]
  congr 2
  simp only [unl, List.getElem_reverse, List.getElem_map, List.length_map, List.getD_eq_getElem?_getD]
  rw [List.getElem?_eq_getElem (by omega)]
  simp [hn]
end Bk
namespace Go.Proofs.YtbijhlgdilkopaaDoor
open Go.RowKit Bk
theorem cells5_new (w : World) (u0 u1 u2 u3 u4 : Value) (t : TypeId) : ∀ (j : Nat) (v : Value), [u0, u1, u2, u3, u4][j]? = some v → (w.alloc (.cells #[u0, u1, u2, u3, u4] t)).cell? ((⟨w.heap.size, 0, none⟩ : Addr).add j) = some v := cells_new w #[u0, u1, u2, u3, u4] t
theorem e_Uncompute {w : World} (A : Option Addr) (n cap : Nat) (l : Prg) (hC : Rd w (· < w.heap.size) 5 A n (codeCells l)) (hw : CodeWf l) (h2 : n ≤ 20000) :
    Calls Tryd.prog 15 #[.slice A n cap] w fun e w' => ∃ v, e = .returned v ∧ w'.ownsRow w.heap.size 42 5 v n (codeCells (unl l)) ∧ Below w.heap.size w w' := by
  have hn : n = l.length := by have := hC.1; rw [codeCells_length] at this; omega
  obtain ⟨i2, li, lz, ls, lb⟩ := info_parts info_insE
  have mk0 : ∀ W : World, (Instr.makeSlice 30 (.int .i64 0) (.int .i64 (n : Int))).run Tryd.prog W = .ok (.slice (some ⟨W.heap.size, 0, none⟩) 0 n) (W.alloc (.cells (madeCells (#[.int .u8 0, .int .i64 0, .int .i64 0, .int .i64 0, .int .i64 0]) (n * 5)) 42)) := fun W => by
    have := run_make (P := Tryd.prog) W 30 42 i2 _ Tryd.underlying30 li lz .i64 .i64 0 n (by omega) (by omega) (by rw [lb]; omega) (by omega)
    rw [ls] at this; exact this
  have HI := Lib.hid li; have HZ := Lib.hid lz; have HS := Lib.hid ls; have HBy := Lib.hid lb; have HC := Lib.hid hC; have HN := Lib.hid hn; have HW := Lib.hid hw
  clear li lz ls lb hC hn hw
  have n0 : (0 : Int) ≤ (n : Int) := by omega
  have n1 : (n : Int) ≤ 20000 := by omega
  go_enter Tryd.func15, Tryd.ntmps15
  go_wp2_with fail
  refine wp_nameE ?_
  intro w1 hw1
  have hown1 : w1.ownsRow w.heap.size 42 5 (.slice (some ⟨w.heap.size, 0, none⟩) 0 n) 0 [] := by rw [hw1]; exact World.ownsRow_made w _ n (Nat.le_refl _) (by simp [maxLen]; omega) (size_madeCells _ _)
  have hb1 : Below w.heap.size w w1 := by rw [hw1]; exact (by go_grown)
  have HO1 := Lib.hid hown1; have HB1 := Lib.hid hb1
  clear hw1 hown1 hb1 mk0
  go_loopw [3, 4] (fun v3 v4 wr => ∃ j : Nat, j ≤ n ∧ v4 = .int .i64 ((n : Int) - 1 - j) ∧ wr.ownsRow w.heap.size 42 5 v3 j (codeCells ((unl l).take j)) ∧ Below w.heap.size w wr) (fun _ v _ => (intOf v + 1).toNat)
  case atStart => exact ⟨0, Nat.zero_le _, by go_num, by simpa [codeCells] using HO1.out, HB1.out⟩
  case round =>
    obtain ⟨j, hj, rfl, how, hbr⟩ := hrel
    have HOW := Lib.hid how; have HBR := Lib.hid hbr
    by_cases hlt : j < n
    · obtain ⟨Ao, co, rfl⟩ := own_form how
      obtain ⟨jn, hjn⟩ : ∃ jn : Nat, n - 1 - j = jn := ⟨_, rfl⟩
      have hjn2 : jn < n := by omega
      have hC2 := HC.out.next hbr
      obtain ⟨bc, oc, rfl, _, _⟩ := hC2.2 (by omega)
      have hx := hC2.insAt (k := jn) (by have := HN.out; omega)
      have htk := unl_take l HN.out hlt
      rw [hjn] at htk
      have hwf := HW.out jn (by have := HN.out; omega)
      generalize l.getD jn default = x at *
      obtain ⟨e0, e1, e2, e3, e4⟩ := hx
      have HTK := Lib.hid htk
      have o0 := hwf.op0; have o1 := hwf.op1
      have ej : (n : Int) - 1 - (j : Int) = (jn : Int) := by omega
      rw [ej]
      have j0 : (0 : Int) ≤ (jn : Int) := by omega
      have j1 : (jn : Int) < (n : Int) := by omega
      have EJ := Lib.hid ej
      clear hC2 htk hwf how hbr ej hjn
      go_wp2_with fail
      refine (c_Inverse x.op x.a x.b x.c x.d o0 o1 _).mono ?_
      rintro e w5 ⟨rfl, hb5⟩
      have HOW5 : Hid (w5.ownsRow w.heap.size 42 5 (.slice Ao j co) j (codeCells ((unl l).take j))) := Lib.hid (own_of_block HOW.out fun k hk _ => hb5.block k hk)
      have HB5 := Lib.hid (HBR.out.next hb5)
      clear e0 e1 e2 e3 e4 hb5
      go_wp2_with (at_builtin; refine wpList_append_own_at _ rfl (.tmp 15) (.tmp 21) 30 rfl w.heap.size 42 i2 _ 5 40 Tryd.underlying30 HI.out HZ.out HS.out HBy.out rfl (by decide) _ _ _ rfl (HOW5.out.alloc _) ⟨w5.heap.size, 0, none⟩ 1 1 [.int .u8 (inv x.op), .int .i64 x.a, .int .i64 x.b, .int .i64 x.c, .int .i64 x.d] rfl rfl (cells5_new _ _ _ _ _ _ _) (by intro u hu; simp at hu; rcases hu with rfl | rfl | rfl | rfl | rfl <;> rfl) (by simp [maxLen]; omega) (by omega) (by simp; have := HB5.out.size; omega) ?_)
      intro v11 w4 hown hgr _ hat
      have hB4 : Below w.heap.size w w4 := (HB5.out.alloc (by have := HB5.out.size; omega) _).grown hgr (by simp; have := HB5.out.size; omega) (fun k hk => (own_gE HOW5.out hk).1)
      have HOWN : Hid (w4.ownsRow w.heap.size 42 5 v11 (j + 1) (codeCells ((unl l).take (j + 1)))) := Lib.hid (by rw [HTK.out, codeCells_append]; exact hown)
      have HB4 := Lib.hid hB4
      clear hown hgr hat hB4
      go_wp2_with fail
      exact ⟨⟨j + 1, by omega, by rw [← EJ.out]; go_num, HOWN.out, HB4.out⟩, by simp [intOf]⟩
    · obtain rfl : j = n := by omega
      have ej : (j : Int) - 1 - (j : Int) = -1 := by omega
      rw [ej]
      go_wp2_with fail
      go_ret
      have e : (unl l).take j = unl l := by rw [HN.out, ← unl_length l]; exact List.take_length
      have how := HOW.out
      rw [e] at how
      exact ⟨_, rfl, how, HBR.out⟩
end Go.Proofs.YtbijhlgdilkopaaDoor

/- exprgen.With. -/
set_option linter.unusedVariables false
set_option linter.unusedSimpArgs false
set_option maxRecDepth 100000
set_option maxHeartbeats 4000000
namespace Bk
/-- Code that computes, uses and uncomputes. -/
def withL (l u : Prg) : Prg := l ++ [⟨13, 4, 0, 0, 0⟩] ++ u ++ [⟨12, 4, 0, 0, 0⟩] ++ unl l
theorem withL_length (l u : Prg) : (withL l u).length = 2 * l.length + u.length + 2 := by simp [withL, unl_length]; omega
end Bk
namespace Go.Proofs.YtbijhlgdilkopaaDoor
open Go.RowKit Bk
theorem wpList_append_codeE {w : World} {ops : Array Oper} {rest : List Oper} {o : Oper} {a : Act} {Q : Exit → Act → World → Prop} (hgd : o.guard = none) (s x : Operand)
    (ho : o.op = .call { callee := .builtin .append, args := #[s, x], argTypes := #[30, 30] })
    (base : Nat) (v : Value) (n : Nat) (xs : Prg) (hs : a.eval s = v) (hown : w.ownsRow base 42 5 v n (codeCells xs))
    (A : Option Addr) (m c : Nat) (code : Prg) (hx : a.eval x = .slice A m c) (hA : A = none → m = 0 ∧ c = 0) {D : Nat → Prop} (hR : Rd w D 5 A m (codeCells code)) (hmax : n + m ≤ 1000000) (hbase : base ≤ w.heap.size)
    (h : ∀ v' w', w'.ownsRow base 42 5 v' (n + m) (codeCells (xs ++ code)) → w.grownBy w' v.ownBlock → (v'.ownBlock = v.ownBlock ∨ v'.ownBlock = some w.heap.size) → wpList Tryd.prog ops Q rest (a.put o.dst v') w') : wpList Tryd.prog ops Q (o :: rest) a w := by
  obtain ⟨i2, li, lz, ls, lb⟩ := info_parts info_insE
  cases A with
  | none =>
    obtain ⟨rfl, rfl⟩ := hA rfl
    have hcode : code = [] := by
      have := hR.1; rw [codeCells_length] at this
      exact List.eq_nil_of_length_eq_zero (by omega)
    subst hcode
    refine wpList_append_own_none hgd s x _ ho base _ i2 5 Tryd.underlying30 li v n (codeCells xs) hs hown hx (h v w (by simpa using hown) (World.grownBy.refl _ _) (.inl rfl))
  | some ad =>
    refine wpList_append_own_at _ hgd s x _ ho base _ i2 _ 5 40 Tryd.underlying30 li lz ls lb rfl (by decide) v n (codeCells xs) hs hown ad m c (codeCells code) hx hR.1 (fun j u hu => ?_) (codeCells_oneE code) (by unfold maxLen; omega) (by omega) hbase (fun v' w' h1 h2 _ h4 => h v' w' (by rw [codeCells_append]; exact h1) h2 h4)
    rcases Nat.eq_zero_or_pos m with h0 | h0
    · subst h0
      have := hR.1
      have : codeCells code = [] := List.eq_nil_of_length_eq_zero (by omega)
      rw [this] at hu; simp at hu
    · obtain ⟨b, off, e, _, hc⟩ := hR.2 h0
      injection e with e
      subst e
      rw [show (⟨b, off, none⟩ : Addr).add j = ⟨b, off + j, none⟩ by simp [Addr.add]]
      exact hc j u hu
theorem e_emitR {w : World} {cb : Nat} {F : Option Addr} {nf cf : Nat} {cc ss : Int} {q : Value} {l : Prg} (hC : Cod w cb F nf cf cc ss q l) (A : Option Addr) (m c : Nat) (ins : Prg) (hA : A = none → m = 0 ∧ c = 0) {D : Nat → Prop} (hR : Rd w D 5 A m (codeCells ins)) (hl : l.length + m ≤ 1000000) :
    Calls Tryd.prog 29 #[.pointer (some ⟨cb, 0, none⟩), .slice A m c] w fun e w' => ∃ q', e = .returned (.tuple #[]) ∧ Cod w' cb F nf cf cc ss q' (l ++ ins) ∧ Emt cb w w' q q' := by
  have hm : ins.length = m := by have := hR.1; rw [codeCells_length] at this; omega
  have HC := Lib.hid hC; have HR := Lib.hid hR; have HM := Lib.hid hm; have HA := Lib.hid hA
  have hlt := hC.blk.lt
  obtain ⟨Aq, cq, rfl⟩ := own_form hC.own
  obtain ⟨ll, hll⟩ : ∃ ll, l.length = ll := ⟨_, rfl⟩
  have HLL := Lib.hid hll
  have HO : Hid (w.ownsRow (cb + 1) 42 5 (.slice Aq ll cq) ll (codeCells l)) := Lib.hid (by have := hC.own; rw [hll] at this; exact this)
  have K1 : Blk w cb 78 #[.slice F nf cf, .int .i64 cc, .int .i64 ss, .slice Aq ll cq] := by have := hC.blk; rw [hll] at this; exact this
  have HK1 := Lib.hid K1
  obtain ⟨z_1, T_1, F_1⟩ := K1.open_
  rw [hll] at hl ⊢
  clear hC hR hm hA K1 hll
  go_enter Tryd.func29, Tryd.ntmps29
  go_wp2_with (at_builtin; refine wpList_append_codeE rfl (.tmp 8) (.tmp 9) rfl (cb + 1) _ _ _ rfl HO.out A m c ins rfl HA.out HR.out hl (by omega) ?_)
  intro v11 w6 hown hgr hat
  obtain ⟨A11, c11, rfl⟩ := own_form hown
  have hne : ∀ k, (Value.slice Aq ll cq).ownBlock = some k → cb + 1 ≤ k := fun k hk => (own_gE HO.out hk).1
  have KF6 : Blk w6 cb 78 #[.slice F nf cf, .int .i64 cc, .int .i64 ss, .slice Aq ll cq] := (hgr.block _ hlt (fun e => by have := hne _ (by first | exact e | exact e.symm); omega)).trans HK1.out
  have HKF6 := Lib.hid KF6
  have hFr : Fr (fun k => k = cb ∨ (Value.slice Aq ll cq).ownBlock = some k) w w6 := ⟨hgr.os, hgr.tape, hgr.output, hgr.size, fun k hk ho => hgr.block k hk (by first | exact fun e => ho (.inr e) | exact fun e => ho (.inr e.symm))⟩
  have HFR := Lib.hid hFr; have HOWN := Lib.hid hown; have HAT := Lib.hid hat
  clear T_1 z_1 F_1 hgr hFr hown hat
  obtain ⟨z_f, T_f, F_f⟩ := KF6.open_
  clear KF6
  go_wp2_with fail
  refine bodyPost_end (results_none rfl _ _ _) rfl ?_
  have hge := fun k hk => (own_gE HOWN.out (k := k) hk).1
  refine ⟨.slice A11 (ll + m) c11, rfl, ⟨?_, ?_⟩, ?_, ?_⟩
  · have := HKF6.out.set_ 3 (.slice A11 (ll + m) c11)
    simpa using this
  · have e : (l ++ ins).length = ll + m := by rw [List.length_append, HLL.out, HM.out]
    rw [e]
    exact own_of_block HOWN.out fun k hk hv => Below.heap_setCell _ _ _ _ (by have := hge k hv; show k ≠ cb; omega)
  · exact HFR.out.set (.inl rfl) _
  · exact HAT.out.imp id fun e k hk => by rw [hk] at e; have e := Option.some.inj e; omega
/-- A row of a call's own, as a slice that is read. -/
theorem Rd.ofOwn {w : World} {base n : Nat} {A : Option Addr} {cap : Nat} {t : TypeId} {xs : List Value} (h : w.ownsRow base t 5 (.slice A n cap) n xs) : (A = none → n = 0 ∧ cap = 0) ∧ Rd w (· < w.heap.size) 5 A n xs := by
  have hx : xs.length = n * 5 := h.1
  rcases h.2 with ⟨e, e2⟩ | ⟨g, cp, cur, e, hB, hh, hr⟩
  · injection e with e1 e3 e4
    subst e1; subst e3; subst e4
    exact ⟨fun _ => ⟨rfl, rfl⟩, hx, fun h0 => absurd h0 (by omega)⟩
  · injection e with e1 _ _
    subst e1
    refine ⟨fun h => by simp at h, hx, fun h0 => ?_⟩
    obtain ⟨g', cap', ev, q1, q2, _, _, q3⟩ := own_some h h0
    injection ev with ev _ _
    injection ev with ev
    injection ev with ev _ _
    subst ev
    exact ⟨g, 0, rfl, q2, fun j u hu => by rw [Nat.zero_add]; exact q3 j u hu⟩
theorem Rd.out {w w' : World} {A : Option Addr} {n : Nat} {xs : List Value} (h : Rd w (· < w.heap.size) 5 A n xs) {B : Nat} (hb : Below B w w') (hB : w.heap.size ≤ B) : Rd w' (· < w'.heap.size) 5 A n xs :=
  h.next (hb.mono hB)
theorem e_With {w : World} {B d : Nat} (hBw : B ≤ w.heap.size) {F : Option Addr} {nf cf : Nat} {cc ss : Int} (hcc0 : 0 ≤ cc) (hcc1 : cc ≤ 1000000) (sl : List St4) (hsl : SlotsAt w B F sl) (hsn : sl.length = nf) (hs32 : nf ≤ 1000000) (e : Ex) (hh : e.held sl) (hsz : e.sz ≤ 1000) (x : Nd) (hx : EV w B nameB e x) (hkv : KV w B d x) (hdp : cc + e.dp ≤ 16384) (w' : World) (hb : Below B w w')
    (hwf : CodeWf (comp sl cc e 0)) (U : Option Addr) (nu cu : Nat) (lu : Prg) (hU : U = none → nu = 0 ∧ cu = 0) (hRU : Rd w' (· < w'.heap.size) 5 U nu (codeCells lu)) (hlu : nu ≤ 100000) :
    Calls Tryd.prog 12 #[.agg #[.int .u8 x.k, .int .i64 x.num, .string x.nm, .slice x.A x.n x.cap], .agg #[.slice F nf cf, .int .i64 cc, .int .i64 ss], .slice U nu cu] w' fun en w'' => ∃ v, en = .returned (.tuple #[v, .int .i64 0]) ∧ w''.ownsRow w'.heap.size 42 5 v (withL (comp sl cc e 0) lu).length (codeCells (withL (comp sl cc e 0) lu)) ∧ Below w'.heap.size w' w'' := by
  have hul : lu.length = nu := by have := hRU.1; rw [codeCells_length] at this; omega
  have HCO : Hid (∀ V, Below B w V → Calls Tryd.prog 11 #[.agg #[.int .u8 x.k, .int .i64 x.num, .string x.nm, .slice x.A x.n x.cap], .agg #[.slice F nf cf, .int .i64 cc, .int .i64 ss]] V fun en w'' => ∃ v, en = .returned (.tuple #[v, .int .i64 0]) ∧ w''.ownsRow V.heap.size 42 5 v (comp sl cc e 0).length (codeCells (comp sl cc e 0)) ∧ Below V.heap.size V w'') := Lib.hid fun V hV => e_Compute hBw hcc0 hcc1 sl hsl hsn hs32 e hh hsz x hx hkv hdp V hV
  have hlen := comp_length sl cc e 0
  obtain ⟨co, hco⟩ : ∃ co, comp sl cc e 0 = co := ⟨_, rfl⟩
  rw [hco] at HCO hlen hwf ⊢
  have hcl : co.length ≤ 8000 := by omega
  obtain ⟨L9, hL9⟩ : ∃ L9 : Prg, withL co lu = L9 := ⟨_, rfl⟩
  rw [hL9]
  obtain ⟨n9, hn9⟩ : ∃ n9, L9.length = n9 := ⟨_, rfl⟩
  rw [hn9]
  have HL9 := Lib.hid hL9; have HN9 := Lib.hid hn9
  clear hL9 hn9
  have HB := Lib.hid hb; have HWF := Lib.hid hwf; have HRU := Lib.hid hRU; have HU := Lib.hid hU; have HUL := Lib.hid hul
  clear hco hlen hx hkv hb hsl hsn hh hwf hRU hU
  obtain ⟨k, num, nm, A, n, cap⟩ := x
  dsimp only at *
  go_enter Tryd.func12, Tryd.ntmps12
  go_upto_region 1 with fail
  refine wp_nameE ?_
  intro w1 hw1
  have hb1 : Below w'.heap.size w' w1 := by rw [hw1]; exact (by go_grown)
  have K3 : Blk w1 w'.heap.size 24 #[.int .u8 k, .int .i64 num, .string nm, .slice A n cap] := by rw [hw1]; exact (by repeat' (first | assumption | exact Blk.new' (by simp) _ _ | apply Blk.alloc | apply Blk.drew))
  have K4 : Blk w1 (w'.heap.size + 1) 35 #[.slice F nf cf, .int .i64 cc, .int .i64 ss] := by rw [hw1]; exact Blk.new' (by simp) _ _
  have HB1 := Lib.hid hb1
  have HBB := Lib.hid (HB.out.trans (hb1.mono (by have := HB.out.size; omega)))
  clear hw1
  obtain ⟨z_3, T_3, F_3⟩ := K3.open_
  obtain ⟨z_4, T_4, F_4⟩ := K4.open_
  clear K3 K4 hb1
  go_upto_region 2 with (go_at_call 11; ((with_reducible refine (HCO.out w1 HBB.out).mono ?_); rintro en w2 ⟨v, rfl, how, hb2⟩))
  have hb2' := HB1.out.next hb2
  obtain ⟨Ac, cap2, rfl⟩ := own_form how
  have HRC := Lib.hid (Rd.ofOwn how)
  have HB2 := Lib.hid hb2'
  clear T_3 z_3 F_3 T_4 z_4 F_4 how hb2 hb2'
  go_upto_region 5 with fail
  refine wp_nameE ?_
  intro w3 hw3
  have hb3 : Below w2.heap.size w2 w3 := by rw [hw3]; exact (by go_grown)
  have KC : Blk w3 w2.heap.size 78 #[.slice none 0 0, .int .i64 0, .int .i64 0, .slice none 0 0] := by rw [hw3]; exact (by repeat' (first | assumption | exact Blk.new' (by simp) _ _ | apply Blk.alloc | apply Blk.drew))
  have HC3 : Hid (Cod w3 w2.heap.size none 0 0 0 0 (.slice none 0 0) []) := Lib.hid ⟨KC, World.ownsRow_nil _ _ _ _⟩
  have hB2s := HB2.out.size
  have HB3_ := hb3
  have hcb : w2.heap.size < w3.heap.size := KC.lt
  clear hw3 KC hb3
  have HX3 : Hid (Below w2.heap.size w2 w3) := Lib.hid HB3_
  go_upto_region 6 with (go_at_call 29; (refine (e_emitR HC3.out Ac _ cap2 co HRC.out.1 (HRC.out.2.next HX3.out) (by simp; omega)).mono ?_; rintro en w4 ⟨q4, rfl, hc4, he4⟩))
  have HC4 : Hid (Cod w4 w2.heap.size none 0 0 0 0 q4 co) := Lib.hid hc4
  have HX4 := Lib.hid (HX3.out.trans (he4.below (Nat.le_refl _) HC3.out))
  clear hc4 he4
  go_upto_region 7 with (first | (go_at_call 30; ((with_reducible refine (e_instr2 13 (4) (0) _ _ _ (Blk.new w4 _ _)).mono ?_); rintro e w4_0 ⟨rfl, hb_⟩; have hB4_0 : Below w4.heap.size w4 w4_0 := Below.next (by go_grown) hb_; clear hb_)) | (go_at_call 29; (refine calls_nameE ?_; intro wE hE; have hBE : Below w4.heap.size w4 wE := (by rw [hE]; exact hB4_0.next (by go_grown)); have KE : Blk wE w4_0.heap.size 42 (codeCells [⟨13, 4, 0, 0, 0⟩]).toArray := (by (subst hE; exact Blk.new _ _ _)); clear hE; refine (e_emit (HC4.out.next hBE) w4_0.heap.size 1 42 [⟨13, 4, 0, 0, 0⟩] KE rfl (by (simp; omega))).mono ?_; rintro e w5 ⟨q5, rfl, hc_, he_⟩; have HC5 := Lib.hid hc_; have HX5 := Lib.hid (HX4.out.trans ((hBE.mono (by have := HX4.out.size; omega)).trans (he_.below (Nat.le_refl _) (HC4.out.next hBE)))); clear hc_ he_ KE hBE hB4_0)))
  have hRU6 := (HRU.out.next HB2.out).next HX5.out
  go_upto_region 8 with (go_at_call 29; (refine (e_emitR HC5.out U _ cu lu HU.out hRU6 (by simp; omega)).mono ?_; rintro en w6 ⟨q6, rfl, hc6, he6⟩))
  have HC6 := Lib.hid hc6
  have HX6 := Lib.hid (HX5.out.trans (he6.below (Nat.le_refl _) HC5.out))
  clear hc6 he6 hRU6
  go_upto_region 9 with (first | (go_at_call 30; ((with_reducible refine (e_instr2 12 (4) (0) _ _ _ (Blk.new w6 _ _)).mono ?_); rintro e w6_0 ⟨rfl, hb_⟩; have hB6_0 : Below w6.heap.size w6 w6_0 := Below.next (by go_grown) hb_; clear hb_)) | (go_at_call 29; (refine calls_nameE ?_; intro wE hE; have hBE : Below w6.heap.size w6 wE := (by rw [hE]; exact hB6_0.next (by go_grown)); have KE : Blk wE w6_0.heap.size 42 (codeCells [⟨12, 4, 0, 0, 0⟩]).toArray := (by (subst hE; exact Blk.new _ _ _)); clear hE; refine (e_emit (HC6.out.next hBE) w6_0.heap.size 1 42 [⟨12, 4, 0, 0, 0⟩] KE rfl (by (simp; omega))).mono ?_; rintro e w7 ⟨q7, rfl, hc_, he_⟩; have HC7 := Lib.hid hc_; have HX7 := Lib.hid (HX6.out.trans ((hBE.mono (by have := HX6.out.size; omega)).trans (he_.below (Nat.le_refl _) (HC6.out.next hBE)))); clear hc_ he_ KE hBE hB6_0)))
  have HCU := Lib.hid (fun (V : World) (hV : Below w2.heap.size w2 V) => e_Uncompute Ac co.length cap2 co (HRC.out.2.next hV) HWF.out (by omega))
  go_upto_region 10 with (first | (go_at_call 15; ((with_reducible refine (HCU.out w7 HX7.out).mono ?_); rintro en w8 ⟨v8, rfl, how8, hb8⟩; obtain ⟨A8, cap8, rfl⟩ := own_form how8; have HR8 := Lib.hid (Rd.ofOwn how8); have HC8 := Lib.hid (HC7.out.next hb8); have HX8 := Lib.hid (HX7.out.trans (hb8.mono (by have := HX7.out.size; omega))); clear how8 hb8)) | (go_at_call 29; (refine (e_emitR HC8.out A8 _ cap8 (unl co) HR8.out.1 HR8.out.2 (by simp; omega)).mono ?_; rintro en w9 ⟨q9, rfl, hc9, he9⟩)))
  have HX9 := Lib.hid (HX8.out.trans (he9.below (Nat.le_refl _) HC8.out))
  have hfin := HB2.out.trans (HX9.out.mono hB2s)
  replace hc9 : Cod w9 w2.heap.size none 0 0 0 0 q9 L9 := by rw [← HL9.out]; exact hc9
  have hown := own_lowE hc9.own (base' := w'.heap.size) (by omega)
  rw [HN9.out] at hown
  have KC := hc9.blk
  obtain ⟨A9, c9, rfl⟩ := own_form hown
  have HFIN := Lib.hid hfin; have HOWN := Lib.hid hown
  clear hc9 he9 hfin hown
  obtain ⟨z_9, T_9, F_9⟩ := KC.open_
  clear KC
  go_wp2_with fail
  refine bodyPost_ret_by (results_tmp2 rfl _ _ _) rfl ?_
  refine ⟨_, rfl, ?_, HFIN.out⟩
  exact HOWN.out
end Go.Proofs.YtbijhlgdilkopaaDoor
