/- Several texts in one: EgE EgY EgZ. -/
import Derived.Test.YtbijhlgdilkopaaGreatDoorEuX
set_option linter.unusedVariables false
set_option linter.unusedSimpArgs false
/- The coder: expr. Printed by gen_ege.py. -/
set_option linter.unusedVariables false
set_option linter.unusedSimpArgs false
set_option maxRecDepth 100000
set_option maxHeartbeats 4000000
namespace Go.Proofs.YtbijhlgdilkopaaGreatDoor
open Go.RowKit Bk
theorem slot_of {sl : List St4} {nm : ByteArray} {k : Int} {s : St4} (h : sl.find? (slotB nm k) = some s) : slotOf sl nm k = s := by unfold slotOf; rw [h]; rfl
theorem x_var {wB : World} {B cb : Nat} {F : Option Addr} {nf cf : Nat} {cc ss : Int} (hBw : B ≤ wB.heap.size) (sl : List St4) (hsl : SlotsAt wB B F sl) (hsn : sl.length = nf) (hs32 : nf ≤ 1000000) (x : Nd) (hk : x.k = 2) (s : St4) (hf : sl.find? (slotB x.nm 1) = some s) (M : Int) : ExprAt wB B cb F nf cf cc ss M (fun _ => [⟨10, 1, s.pos, 0, 0⟩, ⟨3, 2, 1, 0, 0⟩, ⟨10, 1, s.pos, 0, 0⟩, ⟨12, 2, 0, 0, 0⟩]) x := by
  intro w p l q hb hC hp0 hp1 hl
  have HBW := Lib.hid hBw; have HSL := Lib.hid hsl; have HSN := Lib.hid hsn; have HF := Lib.hid hf; have HL := Lib.hid hl; have HC := Lib.hid hC; have HB := Lib.hid hb; have HKD := Lib.hid hk
  obtain ⟨k, num, nm, A, n, cap⟩ := x
  dsimp only at *
  subst hk
  clear hBw hsl hsn hf hl hC hb hp0 hp1
  go_enter Tryz.func27, Tryz.ntmps27
  go_upto_region 1 with fail
  refine wp_nameE ?_
  intro w1 hw1
  have hb1 : Below w.heap.size w w1 := by rw [hw1]; exact (by go_grown)
  have K4 : Blk w1 w.heap.size 24 #[.int .u8 2, .int .i64 num, .string nm, .slice A n cap] := by rw [hw1]; exact (by repeat' (first | assumption | exact Blk.new' (by simp) _ _ | apply Blk.alloc | apply Blk.drew))
  have HC1 := Lib.hid (HC.out.next hb1)
  have HBB := Lib.hid (HB.out.trans (hb1.mono (by have := HB.out.size; have := HBW.out; omega)))
  have HB1 := Lib.hid hb1
  clear hw1 hb1
  obtain ⟨z_4, T_4, F_4⟩ := K4.open_
  clear K4
  go_wp2_with (go_at_call 48; (refine (e_variable HBW.out HBB.out HC1.out sl HSL.out HSN.out hs32 ⟨2, num, nm, A, n, cap⟩ s HF.out (by have := HL.out; simp only [List.length_cons, List.length_nil] at this; omega)).mono ?_; rintro e w2 ⟨q2, rfl, hc_, he_⟩; have HC2 := Lib.hid hc_; have HE2 := Lib.hid (Emt.pre HB1.out he_); clear hc_ he_))
  refine bodyPost_end (results_none rfl _ _ _) rfl ?_
  first | exact ⟨rfl, q2, HC2.out, HE2.out⟩ | exact ⟨q2, rfl, HC2.out, HE2.out⟩
theorem x_stk {wB : World} {B cb : Nat} {F : Option Addr} {nf cf : Nat} {cc ss : Int} (hBw : B ≤ wB.heap.size) (sl : List St4) (hsl : SlotsAt wB B F sl) (hsn : sl.length = nf) (hs32 : nf ≤ 1000000) (x : Nd) (hk : x.k = 4 ∨ x.k = 5) (s : St4) (hf : sl.find? (slotB x.nm 3) = some s) (M : Int) : ExprAt wB B cb F nf cf cc ss M (fun _ => [⟨if x.k = 5 then 15 else 14, 1, s.pos, 0, 0⟩, ⟨12, 1, 0, 0, 0⟩]) x := by
  intro w p l q hb hC hp0 hp1 hl
  have HBW := Lib.hid hBw; have HSL := Lib.hid hsl; have HSN := Lib.hid hsn; have HF := Lib.hid hf; have HL := Lib.hid hl; have HC := Lib.hid hC; have HB := Lib.hid hb; have HKD := Lib.hid hk
  obtain ⟨k, num, nm, A, n, cap⟩ := x
  dsimp only at *
  rcases hk with rfl | rfl
  · clear hBw hsl hsn hf hl hC hb hp0 hp1
    go_enter Tryz.func27, Tryz.ntmps27
    go_upto_region 1 with fail
    refine wp_nameE ?_
    intro w1 hw1
    have hb1 : Below w.heap.size w w1 := by rw [hw1]; exact (by go_grown)
    have K4 : Blk w1 w.heap.size 24 #[.int .u8 4, .int .i64 num, .string nm, .slice A n cap] := by rw [hw1]; exact (by repeat' (first | assumption | exact Blk.new' (by simp) _ _ | apply Blk.alloc | apply Blk.drew))
    have HC1 := Lib.hid (HC.out.next hb1)
    have HBB := Lib.hid (HB.out.trans (hb1.mono (by have := HB.out.size; have := HBW.out; omega)))
    have HB1 := Lib.hid hb1
    clear hw1 hb1
    obtain ⟨z_4, T_4, F_4⟩ := K4.open_
    clear K4
    go_wp2_with (go_at_call 50; (refine (e_stack HBW.out HBB.out HC1.out sl HSL.out HSN.out hs32 ⟨4, num, nm, A, n, cap⟩ HKD.out s HF.out (by have := HL.out; simp only [List.length_cons, List.length_nil] at this; omega)).mono ?_; rintro e w2 ⟨q2, rfl, hc_, he_⟩; have HC2 := Lib.hid hc_; have HE2 := Lib.hid (Emt.pre HB1.out he_); clear hc_ he_))
    refine bodyPost_end (results_none rfl _ _ _) rfl ?_
    first | exact ⟨rfl, q2, HC2.out, HE2.out⟩ | exact ⟨q2, rfl, HC2.out, HE2.out⟩
  · clear hBw hsl hsn hf hl hC hb hp0 hp1
    go_enter Tryz.func27, Tryz.ntmps27
    go_upto_region 1 with fail
    refine wp_nameE ?_
    intro w1 hw1
    have hb1 : Below w.heap.size w w1 := by rw [hw1]; exact (by go_grown)
    have K4 : Blk w1 w.heap.size 24 #[.int .u8 5, .int .i64 num, .string nm, .slice A n cap] := by rw [hw1]; exact (by repeat' (first | assumption | exact Blk.new' (by simp) _ _ | apply Blk.alloc | apply Blk.drew))
    have HC1 := Lib.hid (HC.out.next hb1)
    have HBB := Lib.hid (HB.out.trans (hb1.mono (by have := HB.out.size; have := HBW.out; omega)))
    have HB1 := Lib.hid hb1
    clear hw1 hb1
    obtain ⟨z_4, T_4, F_4⟩ := K4.open_
    clear K4
    go_wp2_with (go_at_call 50; (refine (e_stack HBW.out HBB.out HC1.out sl HSL.out HSN.out hs32 ⟨5, num, nm, A, n, cap⟩ HKD.out s HF.out (by have := HL.out; simp only [List.length_cons, List.length_nil] at this; omega)).mono ?_; rintro e w2 ⟨q2, rfl, hc_, he_⟩; have HC2 := Lib.hid hc_; have HE2 := Lib.hid (Emt.pre HB1.out he_); clear hc_ he_))
    refine bodyPost_end (results_none rfl _ _ _) rfl ?_
    first | exact ⟨rfl, q2, HC2.out, HE2.out⟩ | exact ⟨q2, rfl, HC2.out, HE2.out⟩
theorem x_item {wB : World} {B cb : Nat} {F : Option Addr} {nf cf : Nat} {cc ss : Int} (hBw : B ≤ wB.heap.size) (hBc : B ≤ cb) (sl : List St4) (hsl : SlotsAt wB B F sl) (hsn : sl.length = nf) (hs32 : nf ≤ 1000000) {M : Int} {C : Int → Prg} {x y : Nd} (hk : x.k = 3) (hn : x.n = 1) (hky : Kid wB B x 0 y) (IH : ExprAt wB B cb F nf cf cc ss M C y) (s : St4) (hf : sl.find? (slotB x.nm 2) = some s) (hM : M ≤ 1000000) : ExprAt wB B cb F nf cf cc ss M (fun p => C p ++ [⟨13, 1, 0, 0, 0⟩, ⟨11, 2, 1, s.pos, s.len⟩, ⟨3, 3, 2, 0, 0⟩, ⟨11, 2, 1, s.pos, s.len⟩, ⟨12, 1, 0, 0, 0⟩, ⟨12, 3, 0, 0, 0⟩]) x := by
  intro w p l q hb hC hp0 hp1 hl
  have HBW := Lib.hid hBw; have HBC := Lib.hid hBc; have HL := Lib.hid hl; have HC := Lib.hid hC; have HB := Lib.hid hb; have HP0 := Lib.hid hp0; have HP1 := Lib.hid hp1
  have HSL := Lib.hid hsl; have HSN := Lib.hid hsn; have HF := Lib.hid hf; have HKY := Lib.hid hky; have HIH := Lib.hid IH
  obtain ⟨k, num, nm, A, n, cap⟩ := x
  dsimp only at *
  subst hk hn
  clear hBw hBc hsl hsn hf hl hC hb hp0 hp1 hky IH
  go_enter Tryz.func27, Tryz.ntmps27
  go_upto_region 1 with fail
  refine wp_nameE ?_
  intro w1 hw1
  have hb1 : Below w.heap.size w w1 := by rw [hw1]; exact (by go_grown)
  have K4 : Blk w1 w.heap.size 24 #[.int .u8 3, .int .i64 num, .string nm, .slice A 1 cap] := by rw [hw1]; exact (by repeat' (first | assumption | exact Blk.new' (by simp) _ _ | apply Blk.alloc | apply Blk.drew))
  have HC1 := Lib.hid (HC.out.next hb1)
  have HBB := Lib.hid (HB.out.trans (hb1.mono (by have := HB.out.size; have := HBW.out; omega)))
  have HB1 := Lib.hid hb1
  have HE1 := Lib.hid (Emt.next (Emt.refl cb w q) hb1)
  clear hw1 hb1
  obtain ⟨z_4, T_4, F_4⟩ := K4.open_
  clear K4
  go_wp2_with (go_at_call 49; (refine (e_item HBW.out HBC.out sl HSL.out HSN.out hs32 (x := ⟨3, num, nm, A, 1, cap⟩) rfl HKY.out HIH.out s HF.out w1 p l q HBB.out HC1.out HP0.out HP1.out (by have := HL.out; simp only [List.length_append] at this; omega)).mono ?_; rintro e w2 ⟨q2, rfl, hc_, he_⟩; have HC2 := Lib.hid hc_; have HE2 := Lib.hid (Emt.pre HB1.out he_); clear hc_ he_))
  refine bodyPost_end (results_none rfl _ _ _) rfl ?_
  first | exact ⟨rfl, q2, HC2.out, HE2.out⟩ | exact ⟨q2, rfl, HC2.out, HE2.out⟩ | (refine ⟨rfl, q2, ?_, HE2.out⟩; have := HC2.out; simpa using this)
theorem x_un {wB : World} {B cb : Nat} {F : Option Addr} {nf cf : Nat} {cc ss : Int} (hBw : B ≤ wB.heap.size) (hBc : B ≤ cb) {M : Int} {C : Int → Prg} {x y : Nd} (hk : x.k = 6 ∨ x.k = 7) (hn : x.n = 1) (hky : Kid wB B x 0 y) (IH : ExprAt wB B cb F nf cf cc ss M C y) : ExprAt wB B cb F nf cf cc ss M (fun p => C p ++ [⟨13, 1, 0, 0, 0⟩] ++ (if x.k = 6 then [⟨3, 3, 1, 0, 0⟩, ⟨8, 3, 0, 0, 0⟩] else [⟨9, 3, 1, 2, 16⟩]) ++ [⟨12, 1, 0, 0, 0⟩, ⟨12, 3, 0, 0, 0⟩]) x := by
  intro w p l q hb hC hp0 hp1 hl
  have HBW := Lib.hid hBw; have HBC := Lib.hid hBc; have HL := Lib.hid hl; have HC := Lib.hid hC; have HB := Lib.hid hb; have HP0 := Lib.hid hp0; have HP1 := Lib.hid hp1
  have HKY := Lib.hid hky; have HIH := Lib.hid IH; have HKD := Lib.hid hk
  obtain ⟨k, num, nm, A, n, cap⟩ := x
  dsimp only at *
  subst hn
  clear hBw hBc hl hC hb hp0 hp1 hky IH
  rcases hk with rfl | rfl
  · go_enter Tryz.func27, Tryz.ntmps27
    go_upto_region 1 with fail
    refine wp_nameE ?_
    intro w1 hw1
    have hb1 : Below w.heap.size w w1 := by rw [hw1]; exact (by go_grown)
    have K4 : Blk w1 w.heap.size 24 #[.int .u8 6, .int .i64 num, .string nm, .slice A 1 cap] := by rw [hw1]; exact (by repeat' (first | assumption | exact Blk.new' (by simp) _ _ | apply Blk.alloc | apply Blk.drew))
    have HC1 := Lib.hid (HC.out.next hb1)
    have HBB := Lib.hid (HB.out.trans (hb1.mono (by have := HB.out.size; have := HBW.out; omega)))
    have HB1 := Lib.hid hb1
    have HE1 := Lib.hid (Emt.next (Emt.refl cb w q) hb1)
    clear hw1 hb1
    obtain ⟨z_4, T_4, F_4⟩ := K4.open_
    clear K4
    go_wp2_with (go_at_call 51; (refine (e_unary HBW.out HBC.out (x := ⟨6, num, nm, A, 1, cap⟩) HKD.out rfl HKY.out HIH.out w1 p l q HBB.out HC1.out HP0.out HP1.out (by have := HL.out; simp only [List.length_append] at this; omega)).mono ?_; rintro e w2 ⟨q2, rfl, hc_, he_⟩; have HC2 := Lib.hid hc_; have HE2 := Lib.hid (Emt.pre HB1.out he_); clear hc_ he_))
    refine bodyPost_end (results_none rfl _ _ _) rfl ?_
    first | exact ⟨rfl, q2, HC2.out, HE2.out⟩ | exact ⟨q2, rfl, HC2.out, HE2.out⟩ | (refine ⟨rfl, q2, ?_, HE2.out⟩; have := HC2.out; simpa using this)
  · go_enter Tryz.func27, Tryz.ntmps27
    go_upto_region 1 with fail
    refine wp_nameE ?_
    intro w1 hw1
    have hb1 : Below w.heap.size w w1 := by rw [hw1]; exact (by go_grown)
    have K4 : Blk w1 w.heap.size 24 #[.int .u8 7, .int .i64 num, .string nm, .slice A 1 cap] := by rw [hw1]; exact (by repeat' (first | assumption | exact Blk.new' (by simp) _ _ | apply Blk.alloc | apply Blk.drew))
    have HC1 := Lib.hid (HC.out.next hb1)
    have HBB := Lib.hid (HB.out.trans (hb1.mono (by have := HB.out.size; have := HBW.out; omega)))
    have HB1 := Lib.hid hb1
    have HE1 := Lib.hid (Emt.next (Emt.refl cb w q) hb1)
    clear hw1 hb1
    obtain ⟨z_4, T_4, F_4⟩ := K4.open_
    clear K4
    go_wp2_with (go_at_call 51; (refine (e_unary HBW.out HBC.out (x := ⟨7, num, nm, A, 1, cap⟩) HKD.out rfl HKY.out HIH.out w1 p l q HBB.out HC1.out HP0.out HP1.out (by have := HL.out; simp only [List.length_append] at this; omega)).mono ?_; rintro e w2 ⟨q2, rfl, hc_, he_⟩; have HC2 := Lib.hid hc_; have HE2 := Lib.hid (Emt.pre HB1.out he_); clear hc_ he_))
    refine bodyPost_end (results_none rfl _ _ _) rfl ?_
    first | exact ⟨rfl, q2, HC2.out, HE2.out⟩ | exact ⟨q2, rfl, HC2.out, HE2.out⟩ | (refine ⟨rfl, q2, ?_, HE2.out⟩; have := HC2.out; simpa using this)
theorem x_bin {wB : World} {B cb : Nat} {F : Option Addr} {nf cf : Nat} {cc ss : Int} (hBw : B ≤ wB.heap.size) (hBc : B ≤ cb) (hcc0 : 0 ≤ cc) (hcc1 : cc ≤ 1000000) {M : Int} {C D : Int → Prg} {x y z : Nd} (hk : 8 ≤ x.k ∧ x.k ≤ 23) (hn : x.n = 2) (hky : Kid wB B x 0 y) (hkz : Kid wB B x 1 z) (IH : ExprAt wB B cb F nf cf cc ss M C y) (JH : ExprAt wB B cb F nf cf cc ss (M + 1) D z) (hM : M + 1 ≤ 1000000) : ExprAt wB B cb F nf cf cc ss M (fun p => C p ++ [⟨13, 1, 0, 0, 0⟩, ⟨10, 1, cc + p, 0, 0⟩] ++ D (p + 1) ++ [⟨13, 2, 0, 0, 0⟩, ⟨10, 1, cc + p, 0, 0⟩, ⟨9, 3, 1, 2, x.k⟩, ⟨12, 1, 0, 0, 0⟩, ⟨12, 2, 0, 0, 0⟩, ⟨12, 3, 0, 0, 0⟩]) x := by
  intro w p l q hb hC hp0 hp1 hl
  have HBW := Lib.hid hBw; have HBC := Lib.hid hBc; have HL := Lib.hid hl; have HC := Lib.hid hC; have HB := Lib.hid hb; have HP0 := Lib.hid hp0; have HP1 := Lib.hid hp1
  have HKY := Lib.hid hky; have HKZ := Lib.hid hkz; have HIH := Lib.hid IH; have HJH := Lib.hid JH; have HKD := Lib.hid hk
  obtain ⟨k, num, nm, A, n, cap⟩ := x
  dsimp only at *
  subst hn
  have y1 : ¬ k = 1 := by omega
  have y2 : ¬ k = 2 := by omega
  have y3 : ¬ k = 3 := by omega
  have y4 : ¬ k = 4 := by omega
  have y5 : ¬ k = 5 := by omega
  have y6 : ¬ k = 6 := by omega
  have y7 : ¬ k = 7 := by omega
  clear hBw hBc hl hC hb hp0 hp1 hky hkz IH JH hk
  go_enter Tryz.func27, Tryz.ntmps27
  go_upto_region 1 with fail
  refine wp_nameE ?_
  intro w1 hw1
  have hb1 : Below w.heap.size w w1 := by rw [hw1]; exact (by go_grown)
  have K4 : Blk w1 w.heap.size 24 #[.int .u8 k, .int .i64 num, .string nm, .slice A 2 cap] := by rw [hw1]; exact (by repeat' (first | assumption | exact Blk.new' (by simp) _ _ | apply Blk.alloc | apply Blk.drew))
  have HC1 := Lib.hid (HC.out.next hb1)
  have HBB := Lib.hid (HB.out.trans (hb1.mono (by have := HB.out.size; have := HBW.out; omega)))
  have HB1 := Lib.hid hb1
  have HE1 := Lib.hid (Emt.next (Emt.refl cb w q) hb1)
  clear hw1 hb1
  obtain ⟨z_4, T_4, F_4⟩ := K4.open_
  clear K4
  go_wp2_with (go_at_call 52; (refine (e_binary HBW.out HBC.out hcc0 hcc1 (x := ⟨k, num, nm, A, 2, cap⟩) HKD.out rfl HKY.out HKZ.out hM HIH.out HJH.out w1 p l q HBB.out HC1.out HP0.out HP1.out (by have := HL.out; simp only [List.length_append, List.length_cons, List.length_nil] at this; omega)).mono ?_; rintro e w2 ⟨q2, rfl, hc_, he_⟩; have HC2 := Lib.hid hc_; have HE2 := Lib.hid (Emt.pre HB1.out he_); clear hc_ he_))
  refine bodyPost_end (results_none rfl _ _ _) rfl ?_
  first | exact ⟨rfl, q2, HC2.out, HE2.out⟩ | exact ⟨q2, rfl, HC2.out, HE2.out⟩ | (refine ⟨rfl, q2, ?_, HE2.out⟩; have := HC2.out; simpa using this)
theorem x_num {wB : World} {B cb : Nat} {F : Option Addr} {nf cf : Nat} {cc ss : Int} (hBw : B ≤ wB.heap.size) (hBc : B ≤ cb) {M : Int} {x : Nd} (hk : x.k = 1) : ExprAt wB B cb F nf cf cc ss M (fun _ => [⟨6, 1, x.num, 0, 0⟩, ⟨12, 1, 0, 0, 0⟩]) x := by
  intro w p l q hb hC hp0 hp1 hl
  have HBW := Lib.hid hBw; have HBC := Lib.hid hBc; have HL := Lib.hid hl; have HC := Lib.hid hC; have HB := Lib.hid hb; have HP0 := Lib.hid hp0; have HP1 := Lib.hid hp1
  obtain ⟨k, num, nm, A, n, cap⟩ := x
  dsimp only at *
  subst hk
  clear hBw hBc hl hC hb hp0 hp1
  go_enter Tryz.func27, Tryz.ntmps27
  go_upto_region 1 with fail
  refine wp_nameE ?_
  intro w1 hw1
  have hb1 : Below w.heap.size w w1 := by rw [hw1]; exact (by go_grown)
  have K4 : Blk w1 w.heap.size 24 #[.int .u8 1, .int .i64 num, .string nm, .slice A n cap] := by rw [hw1]; exact (by repeat' (first | assumption | exact Blk.new' (by simp) _ _ | apply Blk.alloc | apply Blk.drew))
  have HC1 := Lib.hid (HC.out.next hb1)
  have HBB := Lib.hid (HB.out.trans (hb1.mono (by have := HB.out.size; have := HBW.out; omega)))
  have HB1 := Lib.hid hb1
  have HE1 := Lib.hid (Emt.next (Emt.refl cb w q) hb1)
  clear hw1 hb1
  obtain ⟨z_4, T_4, F_4⟩ := K4.open_
  clear K4
  go_upto_region 4 with fail
  go_wp2_with (first | (go_at_call 47; ((with_reducible refine (e_instr2 6 (1) (num) _ _ _ (Blk.new w1 _ _)).mono ?_); rintro e w1_0 ⟨rfl, hb_⟩; have hB1_0 : Below w1.heap.size w1 w1_0 := Below.next (by go_grown) hb_; clear hb_)) | (go_at_call 47; ((with_reducible refine (e_instr2 12 (1) (0) _ _ _ (Blk.new w1_0 _ _)).mono ?_); rintro e w1_1 ⟨rfl, hb_⟩; have hB1_1 : Below w1.heap.size w1 w1_1 := (hB1_0.next (by go_grown)).next hb_; clear hb_)) | (go_at_call 46; (refine calls_nameE ?_; intro wE hE; have hBE : Below w1.heap.size w1 wE := (by rw [hE]; exact hB1_1.next (by go_grown)); have KE : Blk wE w1_1.heap.size 102 (codeCells [⟨6, 1, num, 0, 0⟩, ⟨12, 1, 0, 0, 0⟩]).toArray := (by (subst hE; exact Blk.new _ _ _)); clear hE; refine (e_emit (HC1.out.next hBE) w1_1.heap.size 2 102 [⟨6, 1, num, 0, 0⟩, ⟨12, 1, 0, 0, 0⟩] KE rfl (by (have := HL.out; simp only [List.length_append, List.length_cons, List.length_nil] at this; omega))).mono ?_; rintro e w2 ⟨q2, rfl, hc_, he_⟩; have HC2 := Lib.hid hc_; have HE2 := Lib.hid (HE1.out.trans (Emt.pre hBE he_)); clear hc_ he_ KE hBE)))
  refine bodyPost_end (results_none rfl _ _ _) rfl ?_
  first | exact ⟨rfl, q2, HC2.out, HE2.out⟩ | exact ⟨q2, rfl, HC2.out, HE2.out⟩ | (refine ⟨rfl, q2, ?_, HE2.out⟩; have := HC2.out; simpa using this)
end Go.Proofs.YtbijhlgdilkopaaGreatDoor

/- coder.expr emits the code of the expression. -/
set_option linter.unusedVariables false
namespace Go.Proofs.YtbijhlgdilkopaaGreatDoor
open Go.RowKit Bk
theorem e_expr {wB : World} {B cb : Nat} {F : Option Addr} {nf cf : Nat} {cc ss : Int} (hBw : B ≤ wB.heap.size) (hBc : B ≤ cb) (hcc0 : 0 ≤ cc) (hcc1 : cc ≤ 1000000) (sl : List St4) (hsl : SlotsAt wB B F sl) (hsn : sl.length = nf) (hs32 : nf ≤ 1000000) : ∀ e : Ex, e.held sl → ∀ M : Int, M + e.dp ≤ 1000000 → ∀ x, EV wB B nameB e x → ExprAt wB B cb F nf cf cc ss M (comp sl cc e) x := by
  intro e
  induction e with
  | num v =>
    intro hh M hM x hx
    obtain ⟨h1, h2, _⟩ := hx
    have h := x_num hBw hBc (F := F) (nf := nf) (cf := cf) (cc := cc) (ss := ss) (M := M) h1
    rw [h2] at h
    have e : comp sl cc (.num v) = fun _ => [⟨6, 1, v, 0, 0⟩, ⟨12, 1, 0, 0, 0⟩] := by funext p; simp only [comp]
    rw [e]; exact h
  | var s =>
    intro hh M hM x hx
    obtain ⟨h1, _, h3, _⟩ := hx
    obtain ⟨t, ht⟩ := (Ex.held_kids hh).1 (by simp [Ex.vk])
    simp only [Ex.nam, Ex.vk] at ht
    have e : comp sl cc (.var s) = fun _ => [⟨10, 1, t.pos, 0, 0⟩, ⟨3, 2, 1, 0, 0⟩, ⟨10, 1, t.pos, 0, 0⟩, ⟨12, 2, 0, 0, 0⟩] := by funext p; simp only [comp, slot_of ht]
    rw [e]
    exact x_var hBw sl hsl hsn hs32 x h1 t (by rw [h3]; exact ht) M
  | top s =>
    intro hh M hM x hx
    obtain ⟨h1, _, h3, _⟩ := hx
    obtain ⟨t, ht⟩ := (Ex.held_kids hh).1 (by simp [Ex.vk])
    simp only [Ex.nam, Ex.vk] at ht
    have h := x_stk hBw (cb := cb) (cf := cf) (cc := cc) (ss := ss) sl hsl hsn hs32 x (.inl h1) t (by rw [h3]; exact ht) M
    have e : comp sl cc (.top s) = fun _ => [⟨if x.k = 5 then 15 else 14, 1, t.pos, 0, 0⟩, ⟨12, 1, 0, 0, 0⟩] := by funext p; simp only [comp, slot_of ht, h1]; rfl
    rw [e]; exact h
  | size s =>
    intro hh M hM x hx
    obtain ⟨h1, _, h3, _⟩ := hx
    obtain ⟨t, ht⟩ := (Ex.held_kids hh).1 (by simp [Ex.vk])
    simp only [Ex.nam, Ex.vk] at ht
    have h := x_stk hBw (cb := cb) (cf := cf) (cc := cc) (ss := ss) sl hsl hsn hs32 x (.inr h1) t (by rw [h3]; exact ht) M
    have e : comp sl cc (.size s) = fun _ => [⟨if x.k = 5 then 15 else 14, 1, t.pos, 0, 0⟩, ⟨12, 1, 0, 0, 0⟩] := by funext p; simp only [comp, slot_of ht, h1]; rfl
    rw [e]; exact h
  | item s a ih =>
    intro hh M hM x hx
    obtain ⟨h1, _, h3, _, hn, y, hky, hy⟩ := hx
    obtain ⟨t, ht⟩ := (Ex.held_kids hh).1 (by simp [Ex.vk])
    simp only [Ex.nam, Ex.vk] at ht
    simp only [Ex.dp] at hM
    have h := x_item hBw hBc sl hsl hsn hs32 h1 hn hky (ih ((Ex.held_kids hh).2 a (by simp [Ex.kids])) M (by omega) y hy) t (by rw [h3]; exact ht) (by omega)
    have e : comp sl cc (.item s a) = fun p => comp sl cc a p ++ [⟨13, 1, 0, 0, 0⟩, ⟨11, 2, 1, t.pos, t.len⟩, ⟨3, 3, 2, 0, 0⟩, ⟨11, 2, 1, t.pos, t.len⟩, ⟨12, 1, 0, 0, 0⟩, ⟨12, 3, 0, 0, 0⟩] := by funext p; simp only [comp, slot_of ht]
    rw [e]; exact h
  | un op a ih =>
    intro hh M hM x hx
    obtain ⟨h1, h2, _, _, hn, y, hky, hy⟩ := hx
    simp only [Ex.dp] at hM
    have h := x_un hBw hBc (x := x) (by rw [h1]; exact h2) hn hky (ih ((Ex.held_kids hh).2 a (by simp [Ex.kids])) M (by omega) y hy)
    rw [h1] at h
    have e : comp sl cc (.un op a) = fun p => comp sl cc a p ++ [⟨13, 1, 0, 0, 0⟩] ++ (if op = 6 then [⟨3, 3, 1, 0, 0⟩, ⟨8, 3, 0, 0, 0⟩] else [⟨9, 3, 1, 2, 16⟩]) ++ [⟨12, 1, 0, 0, 0⟩, ⟨12, 3, 0, 0, 0⟩] := by funext p; simp only [comp]
    rw [e]; exact h
  | bin op a b iha ihb =>
    intro hh M hM x hx
    obtain ⟨h1, h2, _, _, hn, y, z, hky, hkz, hy, hz⟩ := hx
    simp only [Ex.dp] at hM
    have h := x_bin hBw hBc hcc0 hcc1 (x := x) (by rw [h1]; exact h2) hn hky hkz (iha ((Ex.held_kids hh).2 a (by simp [Ex.kids])) M (by omega) y hy) (ihb ((Ex.held_kids hh).2 b (by simp [Ex.kids])) (M + 1) (by omega) z hz) (by omega)
    rw [h1] at h
    have e : comp sl cc (.bin op a b) = fun p => comp sl cc a p ++ [⟨13, 1, 0, 0, 0⟩, ⟨10, 1, cc + p, 0, 0⟩] ++ comp sl cc b (p + 1) ++ [⟨13, 2, 0, 0, 0⟩, ⟨10, 1, cc + p, 0, 0⟩, ⟨9, 3, 1, 2, op⟩, ⟨12, 1, 0, 0, 0⟩, ⟨12, 2, 0, 0, 0⟩, ⟨12, 3, 0, 0, 0⟩] := by funext p; simp only [comp]
    rw [e]; exact h
end Go.Proofs.YtbijhlgdilkopaaGreatDoor

/- exprgen.Compute: an expression held by the slots is compiled. -/
set_option linter.unusedVariables false
set_option linter.unusedSimpArgs false
set_option maxRecDepth 100000
set_option maxHeartbeats 4000000
namespace Go.Proofs.YtbijhlgdilkopaaGreatDoor
open Go.RowKit Bk
theorem e_Compute {w : World} {B d : Nat} (hBw : B ≤ w.heap.size) {F : Option Addr} {nf cf : Nat} {cc ss : Int} (hcc0 : 0 ≤ cc) (hcc1 : cc ≤ 1000000) (sl : List St4) (hsl : SlotsAt w B F sl) (hsn : sl.length = nf) (hs32 : nf ≤ 1000000) (e : Ex) (hh : e.held sl) (hsz : e.sz ≤ 1000) (x : Nd) (hx : EV w B nameB e x) (hkv : KV w B d x) (hdp : cc + e.dp ≤ 16384) (w' : World) (hb : Below B w w') :
    Calls Tryz.prog 9 #[.agg #[.int .u8 x.k, .int .i64 x.num, .string x.nm, .slice x.A x.n x.cap], .agg #[.slice F nf cf, .int .i64 cc, .int .i64 ss]] w' fun en w'' => ∃ v, en = .returned (.tuple #[v, .int .i64 0]) ∧ w''.ownsRow w'.heap.size 102 5 v (comp sl cc e 0).length (codeCells (comp sl cc e 0)) ∧ Below w'.heap.size w' w'' := by
  have HIS : Hid (∀ V, Below B w V → Calls Tryz.prog 24 #[.agg #[.int .u8 x.k, .int .i64 x.num, .string x.nm, .slice x.A x.n x.cap]] V fun en w'' => en = .returned (.bool true) ∧ Below V.heap.size V w'') := Lib.hid fun V hV => e_IsExpr hBw d x hkv V hV true ⟨fun _ => ⟨e, hx⟩, fun _ => rfl⟩
  have HST : Hid (∀ V, Below B w V → Calls Tryz.prog 25 #[.agg #[.int .u8 x.k, .int .i64 x.num, .string x.nm, .slice x.A x.n x.cap], .agg #[.slice F nf cf, .int .i64 cc, .int .i64 ss]] V fun en w'' => en = .returned (.bool true) ∧ Below V.heap.size V w'') := Lib.hid fun V hV => e_stored hBw F nf cf cc ss sl hsl hsn hs32 e hh x hx V hV
  have HDP : Hid (∀ V, Below B w V → Calls Tryz.prog 26 #[.agg #[.int .u8 x.k, .int .i64 x.num, .string x.nm, .slice x.A x.n x.cap]] V fun en w'' => en = .returned (.int .i64 (e.dp : Int)) ∧ Below V.heap.size V w'') := Lib.hid fun V hV => e_Depth hBw e (by omega) x hx V hV
  have HEX : Hid (∀ cb, B ≤ cb → ExprAt w B cb F nf cf cc ss 0 (comp sl cc e) x) := Lib.hid fun cb hcb => e_expr hBw hcb hcc0 hcc1 sl hsl hsn hs32 e hh 0 (by have := e.dp_le; omega) x hx
  have HB := Lib.hid hb; have HLEN := Lib.hid (comp_length sl cc e 0)
  obtain ⟨k, num, nm, A, n, cap⟩ := x
  dsimp only at *
  clear hx hkv hb hsl hsn hh
  go_enter Tryz.func9, Tryz.ntmps9
  go_upto_region 1 with fail
  refine wp_nameE ?_
  intro w1 hw1
  have hb1 : Below w'.heap.size w' w1 := by rw [hw1]; exact (by go_grown)
  have K2 : Blk w1 w'.heap.size 24 #[.int .u8 k, .int .i64 num, .string nm, .slice A n cap] := by rw [hw1]; exact (by repeat' (first | assumption | exact Blk.new' (by simp) _ _ | apply Blk.alloc | apply Blk.drew))
  have K3 : Blk w1 (w'.heap.size + 1) 41 #[.slice F nf cf, .int .i64 cc, .int .i64 ss] := by rw [hw1]; exact Blk.new' (by simp) _ _
  have HBB := Lib.hid (HB.out.trans (hb1.mono (by have := HB.out.size; omega)))
  clear hw1
  have HK2 := Lib.hid K2; have HK3 := Lib.hid K3; have HB1 := Lib.hid hb1
  obtain ⟨z_2, T_2, F_2⟩ := K2.open_
  clear K2 K3 hb1
  go_upto_region 3 with (go_at_call 24; ((with_reducible refine (HIS.out w1 HBB.out).mono ?_); rintro en w2 ⟨rfl, hb2⟩))
  have HBB2 := Lib.hid (HBB.out.trans (hb2.mono (by have := HBB.out.size; omega)))
  have K2 := HK2.out.next hb2
  have K3 := HK3.out.next hb2
  clear T_2 F_2 z_2
  obtain ⟨z_2, T_2, F_2⟩ := K2.open_
  obtain ⟨z_3, T_3, F_3⟩ := K3.open_
  have HB2 := Lib.hid hb2
  clear K2 K3 hb2
  go_upto_region 5 with (go_at_call 25; ((with_reducible refine (HST.out w2 HBB2.out).mono ?_); rintro en w3 ⟨rfl, hb3⟩))
  have HB3 := Lib.hid (HB2.out.next hb3)
  have HBB3 := Lib.hid (HBB2.out.trans (hb3.mono (by have := HBB2.out.size; omega)))
  have K2 := Lib.hid (HK2.out.next (HB3.out)); have K3 := Lib.hid (HK3.out.next (HB3.out))
  have dp0 : (0 : Int) ≤ e.dp := by omega
  have dp1 : (e.dp : Int) ≤ 1000 := by have := e.dp_le; omega
  obtain ⟨dp, hdpe⟩ : ∃ dp : Int, (e.dp : Int) = dp := ⟨_, rfl⟩
  have HDP' : Hid (∀ V, Below B w V → Calls Tryz.prog 26 #[.agg #[.int .u8 k, .int .i64 num, .string nm, .slice A n cap]] V fun en w'' => en = .returned (.int .i64 dp) ∧ Below V.heap.size V w'') := by rw [← hdpe]; exact HDP
  rw [hdpe] at dp0 dp1 hdp
  have hs : IntKind.i64.wrap (16384 - dp) = 16384 - dp := wrap_small _ (by omega) (by omega)
  have hg : ¬ (cc > 16384 - dp) := by omega
  clear T_2 F_2 z_2 T_3 F_3 z_3 HDP hb3 hdpe
  refine wp_region_grow (by kernel_rfl) (by kernel_rfl) ?_
  intro W hW
  have hneW : Nonempty (Grw W) := ⟨⟨W, Below.refl _ _⟩⟩
  have HBz := Lib.hid (fun z => HBB3.out.trans ((show Below w3.heap.size w3 (grow W z) by rw [← hW]; exact grow_below W z).mono (by have := HBB3.out.size; omega)))
  have t2 := fun z => (K2.out.next (w' := grow W z) (by rw [← hW]; exact grow_below W z)).cell
  have t3 := fun z => (K3.out.next (w' := grow W z) (by rw [← hW]; exact grow_below W z)).cell
  have HW := Lib.hid hW; clear hW
  repeat (go_big_quiet_step ((go_at_call 26; with_reducible exact quiet_grow (HDP'.out _ (HBz.out _)))))
  clear t2 t3
  refine wpQuiet_nil ?_
  rintro _ ⟨z, rfl⟩
  have hb5 : Below w3.heap.size w3 (grow W z) := by rw [← HW.out]; exact grow_below W z
  have hbb5 := HBz.out z
  generalize grow W z = w5 at hb5 hbb5 ⊢
  have K2' := K2.out.next hb5; have K3' := K3.out.next hb5
  have HBB5 := Lib.hid hbb5
  have HB5 := Lib.hid (HB3.out.next hb5)
  clear HW HBz hneW hb5 hbb5
  obtain ⟨z_2, T_2, F_2⟩ := K2'.open_
  obtain ⟨z_3, T_3, F_3⟩ := K3'.open_
  have HK2' := Lib.hid K2'
  clear K2' K3'
  go_upto_region 7 with fail
  go_upto_region 8 with fail
  refine wp_nameE ?_
  intro w6 hw6
  have hb6 : Below w5.heap.size w5 w6 := by rw [hw6]; exact (by go_grown)
  have KC : Blk w6 w5.heap.size 72 #[.slice F nf cf, .int .i64 cc, .int .i64 ss, .slice none 0 0] := by rw [hw6]; exact (by repeat' (first | assumption | exact Blk.new' (by simp) _ _ | apply Blk.alloc | apply Blk.drew))
  have K2 := HK2'.out.next hb6
  have HBB6 := Lib.hid (HBB5.out.trans (hb6.mono (by have := HBB5.out.size; omega)))
  have HB6 := Lib.hid (HB1.out.next (HB5.out.next hb6))
  have hcod : Cod w6 w5.heap.size F nf cf cc ss (.slice none 0 0) [] := ⟨KC, World.ownsRow_nil _ _ _ _⟩
  have HCOD := Lib.hid hcod
  have hcb : B ≤ w5.heap.size := by have := HBB5.out.size; omega
  have hcb2 : w'.heap.size ≤ w5.heap.size := by have := HB1.out.size; have := HB5.out.size; omega
  clear hw6 hb6 KC T_2 F_2 z_2 T_3 F_3 z_3 hcod HK2'
  obtain ⟨z_2, T_2, F_2⟩ := K2.open_
  clear K2
  go_upto_region 9 with (go_at_call 27; (refine (HEX.out w5.heap.size hcb w6 0 [] _ HBB6.out HCOD.out (by decide) (by decide) (by have := HLEN.out; simp only [List.length_nil]; omega)).mono ?_; rintro en w7 ⟨q7, rfl, hc7, he7⟩))
  have hbe := HB6.out.trans (he7.below hcb2 HCOD.out)
  have hown := own_lowE hc7.own (base' := w'.heap.size) (by omega)
  have HBE := Lib.hid hbe; have HOWN := Lib.hid hown
  have KC := hc7.blk
  obtain ⟨A7, c7, rfl⟩ := own_form hc7.own
  clear T_2 F_2 z_2 hbe hown hc7 he7
  obtain ⟨z_6, T_6, F_6⟩ := KC.open_
  clear KC
  go_wp2_with fail
  refine bodyPost_ret_by (results_tmp2 rfl _ _ _) rfl ?_
  exact ⟨_, rfl, HOWN.out, HBE.out⟩
end Go.Proofs.YtbijhlgdilkopaaGreatDoor
