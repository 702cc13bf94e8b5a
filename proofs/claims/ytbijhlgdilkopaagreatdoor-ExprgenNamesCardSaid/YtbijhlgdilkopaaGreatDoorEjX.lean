/- Several texts in one: EgJ EgK EgL EgL2. -/
import Derived.Test.YtbijhlgdilkopaaGreatDoorEfX
import Derived.Test.YtbijhlgdilkopaaGreatDoorZPartner
import Derived.Laws.CopyOwn
import Derived.Maps.AppendAt
import Derived.Test.YtbijhlgdilkopaaGreatDoorErX
import Derived.Great.BuildSlice
import Derived.Shelf.Abstract
import Derived.Deep.MidRow
set_option linter.unusedVariables false
set_option linter.unusedSimpArgs false
/- exprgen.instr. -/
set_option linter.unusedVariables false
set_option linter.unusedSimpArgs false
set_option maxRecDepth 100000
set_option maxHeartbeats 4000000
namespace Go.Proofs.YtbijhlgdilkopaaGreatDoor
open Go.RowKit Bk
theorem info_intE : (Tryz.prog.info? 3).map (·.size) = some 1 := by kernel_rfl
theorem addr_add0 (h j : Nat) : (⟨h, 0, none⟩ : Addr).add j = ⟨h, j, none⟩ := by unfold Addr.add; split <;> simp_all
theorem e_instr1 (op a : Int) (w : World) (h : Nat) (t : TypeId) (hk : Blk w h t #[.int .i64 a]) :
    Calls Tryz.prog 47 #[.int .u8 op, .slice (some ⟨h, 0, none⟩) 1 1] w fun e w' => e = .returned (.agg #[.int .u8 (op), .int .i64 (a), .int .i64 (0), .int .i64 (0), .int .i64 (0)]) ∧ Below w.heap.size w w' := by
  have HK := Lib.hid hk
  have hlt := hk.lt
  clear hk
  go_enter Tryz.func47, Tryz.ntmps47
  go_upto_region 2 with fail
  refine wp_nameE ?_
  intro w1 hw1
  have hb1 : Below w.heap.size w w1 := by rw [hw1]; exact (by go_grown)
  have K4 : Blk w1 w.heap.size 102 #[.int .u8 0, .int .i64 0, .int .i64 0, .int .i64 0, .int .i64 0] := by rw [hw1]; exact (by repeat' (first | assumption | exact Blk.new' (by simp) _ _ | apply Blk.alloc | apply Blk.drew))
  have K5 : Blk w1 (w.heap.size + 1) 116 #[.int .i64 0, .int .i64 0, .int .i64 0, .int .i64 0] := by rw [hw1]; exact Blk.new' (by simp) _ _
  have HK1 := Lib.hid (HK.out.next hb1)
  clear hw1
  have H4 := Lib.hid K4; have H5 := Lib.hid K5
  clear K4 K5
  go_upto_region 3 with (refine wpList_copy_own rfl (.tmp 6) (.tmp 7) 46 46 rfl 3 Tryz.underlying46 info_intE (w.heap.size + 1) 0 4 4 ⟨h, 0, none⟩ 1 1 rfl rfl #[.int .i64 0, .int .i64 0, .int .i64 0, .int .i64 0] 116 H5.out [.int .i64 a] rfl (fun j v hv => by rw [addr_add0]; exact (HK1.out.cell j).trans (by rw [List.getElem?_toArray]; exact hv)) (by simp) (by intro u hu; simp at hu; rcases hu with rfl <;> rfl) ?_)
  refine wp_nameE ?_
  intro w2 hw2
  have K5 : Blk w2 (w.heap.size + 1) 116 #[.int .i64 a, .int .i64 0, .int .i64 0, .int .i64 0] := by
    rw [hw2]
    exact setRow_heap w1 (w.heap.size + 1) _ _ _ _ H5.out
  have K4 : Blk w2 w.heap.size 102 #[.int .u8 0, .int .i64 0, .int .i64 0, .int .i64 0, .int .i64 0] := by
    rw [hw2]
    exact (setRow_other w1 (w.heap.size + 1) w.heap.size _ (by omega)).trans H4.out
  have hb2 : Below w.heap.size w w2 := by rw [hw2]; exact below_setRow hb1 (by omega) _
  have HK4 := Lib.hid K4
  clear hw2
  obtain ⟨z_4, T_4, F_4⟩ := K4.open_
  obtain ⟨z_5, T_5, F_5⟩ := K5.open_
  clear K4 K5
  go_wp2_with fail
  have K9 := ((((HK4.out.set_ 0 (.int .u8 op)).set_ 1 (.int .i64 a)).set_ 2 (.int .i64 0)).set_ 3 (.int .i64 0)).set_ 4 (.int .i64 0)
  refine bodyPost_ret_by (results_cell_row rfl _ _ w.heap.size 102 #[.int .u8 (op), .int .i64 (a), .int .i64 (0), .int .i64 (0), .int .i64 (0)] _ _ rfl (show Blk _ w.heap.size 102 #[.int .u8 (op), .int .i64 (a), .int .i64 (0), .int .i64 (0), .int .i64 (0)] by simpa using K9) Tryz.underlying102 rfl (by kernel_rfl)) rfl ?_
  exact ⟨rfl, ((((hb2.setCell (Nat.le_refl _) _).setCell (Nat.le_refl _) _).setCell (Nat.le_refl _) _).setCell (Nat.le_refl _) _).setCell (Nat.le_refl _) _⟩
theorem e_instr2 (op a b : Int) (w : World) (h : Nat) (t : TypeId) (hk : Blk w h t #[.int .i64 a, .int .i64 b]) :
    Calls Tryz.prog 47 #[.int .u8 op, .slice (some ⟨h, 0, none⟩) 2 2] w fun e w' => e = .returned (.agg #[.int .u8 (op), .int .i64 (a), .int .i64 (b), .int .i64 (0), .int .i64 (0)]) ∧ Below w.heap.size w w' := by
  have HK := Lib.hid hk
  have hlt := hk.lt
  clear hk
  go_enter Tryz.func47, Tryz.ntmps47
  go_upto_region 2 with fail
  refine wp_nameE ?_
  intro w1 hw1
  have hb1 : Below w.heap.size w w1 := by rw [hw1]; exact (by go_grown)
  have K4 : Blk w1 w.heap.size 102 #[.int .u8 0, .int .i64 0, .int .i64 0, .int .i64 0, .int .i64 0] := by rw [hw1]; exact (by repeat' (first | assumption | exact Blk.new' (by simp) _ _ | apply Blk.alloc | apply Blk.drew))
  have K5 : Blk w1 (w.heap.size + 1) 116 #[.int .i64 0, .int .i64 0, .int .i64 0, .int .i64 0] := by rw [hw1]; exact Blk.new' (by simp) _ _
  have HK1 := Lib.hid (HK.out.next hb1)
  clear hw1
  have H4 := Lib.hid K4; have H5 := Lib.hid K5
  clear K4 K5
  go_upto_region 3 with (refine wpList_copy_own rfl (.tmp 6) (.tmp 7) 46 46 rfl 3 Tryz.underlying46 info_intE (w.heap.size + 1) 0 4 4 ⟨h, 0, none⟩ 2 2 rfl rfl #[.int .i64 0, .int .i64 0, .int .i64 0, .int .i64 0] 116 H5.out [.int .i64 a, .int .i64 b] rfl (fun j v hv => by rw [addr_add0]; exact (HK1.out.cell j).trans (by rw [List.getElem?_toArray]; exact hv)) (by simp) (by intro u hu; simp at hu; rcases hu with rfl | rfl <;> rfl) ?_)
  refine wp_nameE ?_
  intro w2 hw2
  have K5 : Blk w2 (w.heap.size + 1) 116 #[.int .i64 a, .int .i64 b, .int .i64 0, .int .i64 0] := by
    rw [hw2]
    exact setRow_heap w1 (w.heap.size + 1) _ _ _ _ H5.out
  have K4 : Blk w2 w.heap.size 102 #[.int .u8 0, .int .i64 0, .int .i64 0, .int .i64 0, .int .i64 0] := by
    rw [hw2]
    exact (setRow_other w1 (w.heap.size + 1) w.heap.size _ (by omega)).trans H4.out
  have hb2 : Below w.heap.size w w2 := by rw [hw2]; exact below_setRow hb1 (by omega) _
  have HK4 := Lib.hid K4
  clear hw2
  obtain ⟨z_4, T_4, F_4⟩ := K4.open_
  obtain ⟨z_5, T_5, F_5⟩ := K5.open_
  clear K4 K5
  go_wp2_with fail
  have K9 := ((((HK4.out.set_ 0 (.int .u8 op)).set_ 1 (.int .i64 a)).set_ 2 (.int .i64 b)).set_ 3 (.int .i64 0)).set_ 4 (.int .i64 0)
  refine bodyPost_ret_by (results_cell_row rfl _ _ w.heap.size 102 #[.int .u8 (op), .int .i64 (a), .int .i64 (b), .int .i64 (0), .int .i64 (0)] _ _ rfl (show Blk _ w.heap.size 102 #[.int .u8 (op), .int .i64 (a), .int .i64 (b), .int .i64 (0), .int .i64 (0)] by simpa using K9) Tryz.underlying102 rfl (by kernel_rfl)) rfl ?_
  exact ⟨rfl, ((((hb2.setCell (Nat.le_refl _) _).setCell (Nat.le_refl _) _).setCell (Nat.le_refl _) _).setCell (Nat.le_refl _) _).setCell (Nat.le_refl _) _⟩
theorem e_instr4 (op a b c d : Int) (w : World) (h : Nat) (t : TypeId) (hk : Blk w h t #[.int .i64 a, .int .i64 b, .int .i64 c, .int .i64 d]) :
    Calls Tryz.prog 47 #[.int .u8 op, .slice (some ⟨h, 0, none⟩) 4 4] w fun e w' => e = .returned (.agg #[.int .u8 (op), .int .i64 (a), .int .i64 (b), .int .i64 (c), .int .i64 (d)]) ∧ Below w.heap.size w w' := by
  have HK := Lib.hid hk
  have hlt := hk.lt
  clear hk
  go_enter Tryz.func47, Tryz.ntmps47
  go_upto_region 2 with fail
  refine wp_nameE ?_
  intro w1 hw1
  have hb1 : Below w.heap.size w w1 := by rw [hw1]; exact (by go_grown)
  have K4 : Blk w1 w.heap.size 102 #[.int .u8 0, .int .i64 0, .int .i64 0, .int .i64 0, .int .i64 0] := by rw [hw1]; exact (by repeat' (first | assumption | exact Blk.new' (by simp) _ _ | apply Blk.alloc | apply Blk.drew))
  have K5 : Blk w1 (w.heap.size + 1) 116 #[.int .i64 0, .int .i64 0, .int .i64 0, .int .i64 0] := by rw [hw1]; exact Blk.new' (by simp) _ _
  have HK1 := Lib.hid (HK.out.next hb1)
  clear hw1
  have H4 := Lib.hid K4; have H5 := Lib.hid K5
  clear K4 K5
  go_upto_region 3 with (refine wpList_copy_own rfl (.tmp 6) (.tmp 7) 46 46 rfl 3 Tryz.underlying46 info_intE (w.heap.size + 1) 0 4 4 ⟨h, 0, none⟩ 4 4 rfl rfl #[.int .i64 0, .int .i64 0, .int .i64 0, .int .i64 0] 116 H5.out [.int .i64 a, .int .i64 b, .int .i64 c, .int .i64 d] rfl (fun j v hv => by rw [addr_add0]; exact (HK1.out.cell j).trans (by rw [List.getElem?_toArray]; exact hv)) (by simp) (by intro u hu; simp at hu; rcases hu with rfl | rfl | rfl | rfl <;> rfl) ?_)
  refine wp_nameE ?_
  intro w2 hw2
  have K5 : Blk w2 (w.heap.size + 1) 116 #[.int .i64 a, .int .i64 b, .int .i64 c, .int .i64 d] := by
    rw [hw2]
    exact setRow_heap w1 (w.heap.size + 1) _ _ _ _ H5.out
  have K4 : Blk w2 w.heap.size 102 #[.int .u8 0, .int .i64 0, .int .i64 0, .int .i64 0, .int .i64 0] := by
    rw [hw2]
    exact (setRow_other w1 (w.heap.size + 1) w.heap.size _ (by omega)).trans H4.out
  have hb2 : Below w.heap.size w w2 := by rw [hw2]; exact below_setRow hb1 (by omega) _
  have HK4 := Lib.hid K4
  clear hw2
  obtain ⟨z_4, T_4, F_4⟩ := K4.open_
  obtain ⟨z_5, T_5, F_5⟩ := K5.open_
  clear K4 K5
  go_wp2_with fail
  have K9 := ((((HK4.out.set_ 0 (.int .u8 op)).set_ 1 (.int .i64 a)).set_ 2 (.int .i64 b)).set_ 3 (.int .i64 c)).set_ 4 (.int .i64 d)
  refine bodyPost_ret_by (results_cell_row rfl _ _ w.heap.size 102 #[.int .u8 (op), .int .i64 (a), .int .i64 (b), .int .i64 (c), .int .i64 (d)] _ _ rfl (show Blk _ w.heap.size 102 #[.int .u8 (op), .int .i64 (a), .int .i64 (b), .int .i64 (c), .int .i64 (d)] by simpa using K9) Tryz.underlying102 rfl (by kernel_rfl)) rfl ?_
  exact ⟨rfl, ((((hb2.setCell (Nat.le_refl _) _).setCell (Nat.le_refl _) _).setCell (Nat.le_refl _) _).setCell (Nat.le_refl _) _).setCell (Nat.le_refl _) _⟩
end Go.Proofs.YtbijhlgdilkopaaGreatDoor

/- The coder: emit. -/
set_option linter.unusedVariables false
set_option linter.unusedSimpArgs false
set_option maxRecDepth 100000
set_option maxHeartbeats 4000000
namespace Go.Proofs.YtbijhlgdilkopaaGreatDoor
open Go.RowKit Bk
theorem info_insE : (Tryz.prog.info? 102).map (fun i => (i.zero, i.size, i.bytes)) = some (some (.agg #[.int .u8 (0), .int .i64 (0), .int .i64 (0), .int .i64 (0), .int .i64 (0)]), 5, 40) := by kernel_rfl
theorem codeCells_oneE (code : Prg) : ∀ u ∈ codeCells code, u.oneCell' = true := by
  intro u hu
  unfold codeCells at hu
  obtain ⟨x, _, hx⟩ := List.mem_flatMap.1 hu
  simp [insCells] at hx
  rcases hx with rfl | rfl | rfl | rfl | rfl <;> rfl

/-- A coder lies in block cb: its frame, and the code l in a row of its own. -/
structure Cod (w : World) (cb : Nat) (F : Option Addr) (nf cf : Nat) (cc ss : Int) (q : Value) (l : Prg) : Prop where
  blk : Blk w cb 72 #[.slice F nf cf, .int .i64 cc, .int .i64 ss, q]
  own : w.ownsRow (cb + 1) 102 5 q l.length (codeCells l)
/-- What emitting may change: the coder's block, the code's row; the new row is the old one or new. -/
def Emt (cb : Nat) (w w' : World) (q q' : Value) : Prop := Fr (fun k => k = cb ∨ q.ownBlock = some k) w w' ∧ (q'.ownBlock = q.ownBlock ∨ ∀ k, q'.ownBlock = some k → w.heap.size ≤ k)
theorem Emt.refl (cb : Nat) (w : World) (q : Value) : Emt cb w w q q := ⟨Fr.refl _ _, .inl rfl⟩
theorem Emt.trans {cb : Nat} {w w' w'' : World} {q q' q'' : Value} (h : Emt cb w w' q q') (h' : Emt cb w' w'' q' q'') : Emt cb w w'' q q'' := by
  obtain ⟨f1, e1⟩ := h
  obtain ⟨f2, e2⟩ := h'
  refine ⟨⟨f2.os.trans f1.os, f2.tape.trans f1.tape, f2.output.trans f1.output, Nat.le_trans f1.size f2.size, fun k hk ho => (f2.block k (Nat.lt_of_lt_of_le hk f1.size) fun h => ?_).trans (f1.block k hk ho)⟩, ?_⟩
  · rcases h with h | h
    · exact ho (.inl h)
    · rcases e1 with e | e
      · rw [e] at h; exact ho (.inr h)
      · have := e k h; omega
  · rcases e2 with e | e
    · rw [e]; exact e1
    · exact .inr fun k hk => Nat.le_trans f1.size (e k hk)
theorem Emt.next {cb : Nat} {w w' w'' : World} {q q' : Value} (h : Emt cb w w' q q') (hb : Below w'.heap.size w' w'') : Emt cb w w'' q q' := ⟨h.1.next hb, h.2⟩
theorem Emt.pre {cb : Nat} {w w' w'' : World} {q q' : Value} (hb : Below w.heap.size w w') (h : Emt cb w' w'' q q') : Emt cb w w'' q q' := ⟨(Fr.of hb).trans h.1, h.2.imp id fun e k hk => Nat.le_trans hb.size (e k hk)⟩
theorem Cod.next {w w' : World} {cb : Nat} {F : Option Addr} {nf cf : Nat} {cc ss : Int} {q : Value} {l : Prg} (h : Cod w cb F nf cf cc ss q l) (hb : Below w.heap.size w w') : Cod w' cb F nf cf cc ss q l :=
  ⟨h.blk.next hb, own_of_block h.own fun k hk _ => hb.block k hk⟩
theorem e_emit {w : World} {cb : Nat} {F : Option Addr} {nf cf : Nat} {cc ss : Int} {q : Value} {l : Prg} (hC : Cod w cb F nf cf cc ss q l) (h m : Nat) (t : TypeId) (ins : Prg) (hk : Blk w h t (codeCells ins).toArray) (hm : ins.length = m) (hl : l.length + m ≤ 1000000) :
    Calls Tryz.prog 46 #[.pointer (some ⟨cb, 0, none⟩), .slice (some ⟨h, 0, none⟩) m m] w fun e w' => ∃ q', e = .returned (.tuple #[]) ∧ Cod w' cb F nf cf cc ss q' (l ++ ins) ∧ Emt cb w w' q q' := by
  have HC := Lib.hid hC; have HK := Lib.hid hk; have HM := Lib.hid hm
  have hlt := hC.blk.lt
  obtain ⟨Aq, cq, rfl⟩ := own_form hC.own
  obtain ⟨i2, li, lz, ls, lb⟩ := info_parts info_insE
  have HI := Lib.hid li; have HZ := Lib.hid lz; have HS := Lib.hid ls; have HBy := Lib.hid lb
  obtain ⟨ll, hll⟩ : ∃ ll, l.length = ll := ⟨_, rfl⟩
  have HLL := Lib.hid hll
  have HO : Hid (w.ownsRow (cb + 1) 102 5 (.slice Aq ll cq) ll (codeCells l)) := Lib.hid (by have := hC.own; rw [hll] at this; exact this)
  have K1 : Blk w cb 72 #[.slice F nf cf, .int .i64 cc, .int .i64 ss, .slice Aq ll cq] := by have := hC.blk; rw [hll] at this; exact this
  have HK1 := Lib.hid K1
  obtain ⟨z_1, T_1, F_1⟩ := K1.open_
  rw [hll] at hl ⊢
  clear hC hk hm K1 li lz ls lb hll
  go_enter Tryz.func46, Tryz.ntmps46
  go_wp2_with (at_builtin; refine wpList_append_own_at _ rfl (.tmp 8) (.tmp 9) 35 rfl (cb + 1) 102 i2 _ 5 40 Tryz.underlying35 HI.out HZ.out HS.out HBy.out rfl (by decide) _ _ _ rfl HO.out ⟨h, 0, none⟩ m m (codeCells ins) rfl (by rw [codeCells_length, HM.out]) (fun j v hv => by rw [addr_add0]; exact (HK.out.cell j).trans (by rw [List.getElem?_toArray]; exact hv)) (codeCells_oneE ins) (by simp [maxLen]; omega) (by omega) (by omega) ?_)
  intro v11 w6 hown hgr _ hat
  obtain ⟨A11, c11, rfl⟩ := own_form hown
  have hne : ∀ k, (Value.slice Aq ll cq).ownBlock = some k → cb + 1 ≤ k := fun k hk => (own_gE HO.out hk).1
  have KF6 : Blk w6 cb 72 #[.slice F nf cf, .int .i64 cc, .int .i64 ss, .slice Aq ll cq] := (hgr.block _ hlt (fun e => by have := hne _ (by first | exact e | exact e.symm); omega)).trans HK1.out
  have HKF6 := Lib.hid KF6
  have hFr : Fr (fun k => k = cb ∨ (Value.slice Aq ll cq).ownBlock = some k) w w6 := ⟨hgr.os, hgr.tape, hgr.output, hgr.size, fun k hk ho => hgr.block k hk (by first | exact fun e => ho (.inr e) | exact fun e => ho (.inr e.symm))⟩
  have HFR := Lib.hid hFr; have HOWN := Lib.hid hown; have HAT := Lib.hid hat
  clear T_1 z_1 F_1 hgr hFr hown hat
  obtain ⟨z_f, T_f, F_f⟩ := KF6.open_
  clear KF6
  go_wp2_with fail
  refine bodyPost_end (results_none rfl _ _ _) rfl ?_
  have hge := fun k hk => (own_gE HOWN.out (k := k) hk).1
  refine ⟨.slice A11 (ll + m) c11, rfl, ⟨?_, ?_⟩, ?_, ?_⟩
  · have := HKF6.out.set_ 3 (.slice A11 (ll + m) c11)
    simpa using this
  · have e : (l ++ ins).length = ll + m := by rw [List.length_append, HLL.out, HM.out]
    rw [e, codeCells_append]
    exact own_of_block HOWN.out fun k hk hv => Below.heap_setCell _ _ _ _ (by have := hge k hv; show k ≠ cb; omega)
  · exact HFR.out.set (.inl rfl) _
  · exact HAT.out.imp id fun e k hk => by rw [hk] at e; have e := Option.some.inj e; omega
end Go.Proofs.YtbijhlgdilkopaaGreatDoor

/- Operations of a region that draws its order, at an act that is a letter. -/
set_option linter.unusedVariables false
set_option linter.unusedSimpArgs false
set_option maxRecDepth 100000
set_option maxHeartbeats 4000000
namespace Go.Proofs.YtbijhlgdilkopaaGreatDoor
open Go.RowKit Bk
/-- The operation yields a value of which R holds, and the world has grown. -/
def Ylds (o : Oper) (a : Act) (w : World) (Q : Exit → Act → World → Prop) (R : Value → World → Prop) : Prop := o.wp Tryz.prog a w (fun a' w'' => ∃ v, a' = a.put o.dst v ∧ R v w'' ∧ Below w.heap.size w w'') Q
section
variable {o : Oper} {a : Act} {w : World} {Q : Exit → Act → World → Prop} {R : Value → World → Prop}
theorem y_move (x : Operand) (ho : o.op = .move x) (h : R (a.eval x) w) : Ylds o a w Q R := wp_moveP x ho ⟨_, rfl, h, Below.refl _ _⟩
theorem y_load (x : Operand) (ho : o.op = .load 102 x) (h : Nat) (t : TypeId) (op a1 a2 a3 a4 : Int) (hx : a.eval x = .pointer (some ⟨h, 0, none⟩)) (hk : Blk w h t #[.int .u8 (op), .int .i64 (a1), .int .i64 (a2), .int .i64 (a3), .int .i64 (a4)]) (hR : R (.agg #[.int .u8 (op), .int .i64 (a1), .int .i64 (a2), .int .i64 (a3), .int .i64 (a4)]) w) : Ylds o a w Q R := by
  have hl : (Instr.loadAt 102 (.pointer (some ⟨h, 0, none⟩))).run Tryz.prog w = .ok (.agg #[.int .u8 (op), .int .i64 (a1), .int .i64 (a2), .int .i64 (a3), .int .i64 (a4)]) w :=
    run_loadAt_mid w h 0 102 [.int .u8 op, .int .i64 a1, .int .i64 a2, .int .i64 a3, .int .i64 a4] _ (fun j v hv => by rw [Nat.zero_add]; exact (hk.cell j).trans (by rw [List.getElem?_toArray]; exact hv)) Tryz.underlying102 rfl (by kernel_rfl)
  unfold Ylds Oper.wp execOp
  simp only [ho, hx, hl, Sem.run_bind, Sem.run_pure, Result.andThen_ok]
  exact ⟨_, rfl, hR, Below.refl _ _⟩
theorem y_build (t e : TypeId) (len : Nat) (parts : Array (Nat × Operand)) (ho : o.op = .buildSlice t len parts) (cells : Array Value) (ie : TypeInfo) (z : Value)
    (hu : Tryz.prog.underlying t = some (.slice e)) (hie : Tryz.prog.info? e = some ie) (hz : ie.zero = some z) (hsmall : ¬ len * ie.size > 2 ^ 24) (hpos : ¬ len * ie.size = 0)
    (hf : Instr.fill (fun i => some (i * ie.size, ie.size)) ((Array.range (len * ie.size)).map (z.cells[· % z.cells.size]!)) (parts.map fun (i, x) => (i, a.eval x)).toList = some cells)
    (hR : R (.slice (some ⟨w.heap.size, 0, none⟩) len len) (w.alloc (.cells cells e))) : Ylds o a w Q R :=
  wp_buildSlice t e len parts ho cells ie z hu hie hz hsmall hpos hf ⟨_, rfl, hR, (Below.refl _ _).alloc (Nat.le_refl _) _⟩
theorem y_call (f : FuncId) (x y : Operand) (ts : Array TypeId) (ho : o.op = .call { callee := .value (.func f), args := #[x, y], argTypes := ts }) (he : ∀ (args : Array Value) (w : World), (callFunc f args).run Tryz.prog w = .ok (.enter f args) w) (h : Calls Tryz.prog f #[a.eval x, a.eval y] w fun e w' => ∃ v, e = .returned v ∧ R v w' ∧ Below w.heap.size w w') : Ylds o a w Q R := by
  have h' : Calls Tryz.prog f #[a.eval x, a.eval y] w fun e w' => ∃ v, e = .returned v ∧ (∃ v', a.put o.dst v = a.put o.dst v' ∧ R v' w' ∧ Below w.heap.size w w') := h.mono fun e w' ⟨v, h1, h2, h3⟩ => ⟨v, h1, v, rfl, h2, h3⟩
  have hr : (execOp a.eval o).run Tryz.prog w = .ok (.enter f #[a.eval x, a.eval y]) w := by
    unfold execOp
    have e : a.eval (.func f) = .func (.func f) #[] #[] := rfl
    simp only [ho, resolve, invoke, Sem.run_bind, Sem.run_pure, Result.andThen_ok, List.map_toArray, List.map_cons, List.map_nil, e, Deferred.ofValue, Array.append_empty, Array.empty_append, he]
  unfold Ylds Oper.wp
  rw [hr]
  refine Calls.mono h fun en w' hh => ?_
  obtain ⟨v, rfl, h2, h3⟩ := hh
  exact ⟨v, rfl, h2, h3⟩
end
end Go.Proofs.YtbijhlgdilkopaaGreatDoor

/- The operations of a region that emits. Printed by gen_egl2.py. -/
set_option linter.unusedVariables false
set_option linter.unusedSimpArgs false
set_option maxRecDepth 100000
set_option maxHeartbeats 4000000
namespace Go.Proofs.YtbijhlgdilkopaaGreatDoor
open Go.RowKit Bk
def insV (i : Ins) : Value := .agg #[.int .u8 (i.op), .int .i64 (i.a), .int .i64 (i.b), .int .i64 (i.c), .int .i64 (i.d)]
/-- A slice of the given cells, in a block of its own. -/
def SlB (cs : Array Value) (n : Nat) (v : Value) (w : World) : Prop := ∃ h t, v = .slice (some ⟨h, 0, none⟩) n n ∧ Blk w h t cs
theorem SlB.next {cs : Array Value} {n : Nat} {v : Value} {w w' : World} (h : SlB cs n v w) (hb : Below w.heap.size w w') : SlB cs n v w' := let ⟨g, t, h1, h2⟩ := h; ⟨g, t, h1, h2.next hb⟩
theorem info_int3 : (Tryz.prog.info? 3).map (fun i => (i.zero, i.size, i.bytes)) = some (some (.int .i64 0), 1, 8) := by kernel_rfl
theorem en_instr : ∀ (args : Array Value) (w : World), (callFunc 47 args).run Tryz.prog w = .ok (.enter 47 args) w := enters_of Tryz.func47 (by kernel_rfl) rfl
theorem en_emit : ∀ (args : Array Value) (w : World), (callFunc 46 args).run Tryz.prog w = .ok (.enter 46 args) w := enters_of Tryz.func46 (by kernel_rfl) rfl
section
variable {o : Oper} {a : Act} {w : World} {Q : Exit → Act → World → Prop} {R : Value → World → Prop}
theorem y_ints1 (c0 : Operand) (v0 : Int) (ho : o.op = .buildSlice 46 1 #[(0, c0)]) (h0 : a.eval c0 = .int .i64 v0) (hR : ∀ v w', SlB #[.int .i64 v0] 1 v w' → R v w') : Ylds o a w Q R := by
  obtain ⟨ie, li, lz, ls, lb⟩ := info_parts info_int3
  refine y_build 46 3 1 #[(0, c0)] ho #[.int .i64 v0] ie _ Tryz.underlying46 li lz (by rw [ls]; decide) (by rw [ls]; decide) ?_ (hR _ _ ⟨_, _, rfl, Blk.new _ _ _⟩)
  rw [ls]
  simp only [List.map_toArray, List.map_cons, List.map_nil, h0]
  exact Go.Great.fill_flat [.int .i64 v0] _ (by simp [Value.cells]) (by simp)
theorem y_ints2 (c0 c1 : Operand) (v0 v1 : Int) (ho : o.op = .buildSlice 46 2 #[(0, c0), (1, c1)]) (h0 : a.eval c0 = .int .i64 v0) (h1 : a.eval c1 = .int .i64 v1) (hR : ∀ v w', SlB #[.int .i64 v0, .int .i64 v1] 2 v w' → R v w') : Ylds o a w Q R := by
  obtain ⟨ie, li, lz, ls, lb⟩ := info_parts info_int3
  refine y_build 46 3 2 #[(0, c0), (1, c1)] ho #[.int .i64 v0, .int .i64 v1] ie _ Tryz.underlying46 li lz (by rw [ls]; decide) (by rw [ls]; decide) ?_ (hR _ _ ⟨_, _, rfl, Blk.new _ _ _⟩)
  rw [ls]
  simp only [List.map_toArray, List.map_cons, List.map_nil, h0, h1]
  exact Go.Great.fill_flat [.int .i64 v0, .int .i64 v1] _ (by simp [Value.cells]) (by simp)
theorem y_ints4 (c0 c1 c2 c3 : Operand) (v0 v1 v2 v3 : Int) (ho : o.op = .buildSlice 46 4 #[(0, c0), (1, c1), (2, c2), (3, c3)]) (h0 : a.eval c0 = .int .i64 v0) (h1 : a.eval c1 = .int .i64 v1) (h2 : a.eval c2 = .int .i64 v2) (h3 : a.eval c3 = .int .i64 v3) (hR : ∀ v w', SlB #[.int .i64 v0, .int .i64 v1, .int .i64 v2, .int .i64 v3] 4 v w' → R v w') : Ylds o a w Q R := by
  obtain ⟨ie, li, lz, ls, lb⟩ := info_parts info_int3
  refine y_build 46 3 4 #[(0, c0), (1, c1), (2, c2), (3, c3)] ho #[.int .i64 v0, .int .i64 v1, .int .i64 v2, .int .i64 v3] ie _ Tryz.underlying46 li lz (by rw [ls]; decide) (by rw [ls]; decide) ?_ (hR _ _ ⟨_, _, rfl, Blk.new _ _ _⟩)
  rw [ls]
  simp only [List.map_toArray, List.map_cons, List.map_nil, h0, h1, h2, h3]
  exact Go.Great.fill_flat [.int .i64 v0, .int .i64 v1, .int .i64 v2, .int .i64 v3] _ (by simp [Value.cells]) (by simp)
theorem y_ins1 (c0 : Operand) (i0 : Ins) (ho : o.op = .buildSlice 35 1 #[(0, c0)]) (h0 : a.eval c0 = insV i0) (hR : ∀ v w', SlB (codeCells [i0]).toArray 1 v w' → R v w') : Ylds o a w Q R := by
  obtain ⟨ie, li, lz, ls, lb⟩ := info_parts info_insE
  refine y_build 35 102 1 #[(0, c0)] ho (codeCells [i0]).toArray ie _ Tryz.underlying35 li lz (by rw [ls]; decide) (by rw [ls]; decide) ?_ (hR _ _ ⟨_, _, rfl, Blk.new _ _ _⟩)
  rw [ls]
  simp only [List.map_toArray, List.map_cons, List.map_nil, h0]
  exact Go.Great.fill_whole (by decide) [insV i0] _ (by simp [insV, Value.cells]) (by simp)
theorem y_ins2 (c0 c1 : Operand) (i0 i1 : Ins) (ho : o.op = .buildSlice 35 2 #[(0, c0), (1, c1)]) (h0 : a.eval c0 = insV i0) (h1 : a.eval c1 = insV i1) (hR : ∀ v w', SlB (codeCells [i0, i1]).toArray 2 v w' → R v w') : Ylds o a w Q R := by
  obtain ⟨ie, li, lz, ls, lb⟩ := info_parts info_insE
  refine y_build 35 102 2 #[(0, c0), (1, c1)] ho (codeCells [i0, i1]).toArray ie _ Tryz.underlying35 li lz (by rw [ls]; decide) (by rw [ls]; decide) ?_ (hR _ _ ⟨_, _, rfl, Blk.new _ _ _⟩)
  rw [ls]
  simp only [List.map_toArray, List.map_cons, List.map_nil, h0, h1]
  exact Go.Great.fill_whole (by decide) [insV i0, insV i1] _ (by simp [insV, Value.cells]) (by simp)
theorem y_ins4 (c0 c1 c2 c3 : Operand) (i0 i1 i2 i3 : Ins) (ho : o.op = .buildSlice 35 4 #[(0, c0), (1, c1), (2, c2), (3, c3)]) (h0 : a.eval c0 = insV i0) (h1 : a.eval c1 = insV i1) (h2 : a.eval c2 = insV i2) (h3 : a.eval c3 = insV i3) (hR : ∀ v w', SlB (codeCells [i0, i1, i2, i3]).toArray 4 v w' → R v w') : Ylds o a w Q R := by
  obtain ⟨ie, li, lz, ls, lb⟩ := info_parts info_insE
  refine y_build 35 102 4 #[(0, c0), (1, c1), (2, c2), (3, c3)] ho (codeCells [i0, i1, i2, i3]).toArray ie _ Tryz.underlying35 li lz (by rw [ls]; decide) (by rw [ls]; decide) ?_ (hR _ _ ⟨_, _, rfl, Blk.new _ _ _⟩)
  rw [ls]
  simp only [List.map_toArray, List.map_cons, List.map_nil, h0, h1, h2, h3]
  exact Go.Great.fill_whole (by decide) [insV i0, insV i1, insV i2, insV i3] _ (by simp [insV, Value.cells]) (by simp)
theorem y_ins6 (c0 c1 c2 c3 c4 c5 : Operand) (i0 i1 i2 i3 i4 i5 : Ins) (ho : o.op = .buildSlice 35 6 #[(0, c0), (1, c1), (2, c2), (3, c3), (4, c4), (5, c5)]) (h0 : a.eval c0 = insV i0) (h1 : a.eval c1 = insV i1) (h2 : a.eval c2 = insV i2) (h3 : a.eval c3 = insV i3) (h4 : a.eval c4 = insV i4) (h5 : a.eval c5 = insV i5) (hR : ∀ v w', SlB (codeCells [i0, i1, i2, i3, i4, i5]).toArray 6 v w' → R v w') : Ylds o a w Q R := by
  obtain ⟨ie, li, lz, ls, lb⟩ := info_parts info_insE
  refine y_build 35 102 6 #[(0, c0), (1, c1), (2, c2), (3, c3), (4, c4), (5, c5)] ho (codeCells [i0, i1, i2, i3, i4, i5]).toArray ie _ Tryz.underlying35 li lz (by rw [ls]; decide) (by rw [ls]; decide) ?_ (hR _ _ ⟨_, _, rfl, Blk.new _ _ _⟩)
  rw [ls]
  simp only [List.map_toArray, List.map_cons, List.map_nil, h0, h1, h2, h3, h4, h5]
  exact Go.Great.fill_whole (by decide) [insV i0, insV i1, insV i2, insV i3, insV i4, insV i5] _ (by simp [insV, Value.cells]) (by simp)
theorem y_instr1 (x y : Operand) (ts : Array TypeId) (op v0 : Int) (v : Value) (ho : o.op = .call { callee := .value (.func 47), args := #[x, y], argTypes := ts }) (hx : a.eval x = .int .u8 op) (hy : a.eval y = v) (hv : SlB #[.int .i64 v0] 1 v w) (hR : ∀ w', R (insV ⟨op, v0, 0, 0, 0⟩) w') : Ylds o a w Q R := by
  obtain ⟨g, t, rfl, hk⟩ := hv
  refine y_call _ x y ts ho en_instr ?_
  rw [hx, hy]
  refine (e_instr1 op v0 w g t hk).mono fun e w' h => ⟨_, h.1, hR w', h.2⟩
theorem y_instr2 (x y : Operand) (ts : Array TypeId) (op v0 v1 : Int) (v : Value) (ho : o.op = .call { callee := .value (.func 47), args := #[x, y], argTypes := ts }) (hx : a.eval x = .int .u8 op) (hy : a.eval y = v) (hv : SlB #[.int .i64 v0, .int .i64 v1] 2 v w) (hR : ∀ w', R (insV ⟨op, v0, v1, 0, 0⟩) w') : Ylds o a w Q R := by
  obtain ⟨g, t, rfl, hk⟩ := hv
  refine y_call _ x y ts ho en_instr ?_
  rw [hx, hy]
  refine (e_instr2 op v0 v1 w g t hk).mono fun e w' h => ⟨_, h.1, hR w', h.2⟩
theorem y_instr4 (x y : Operand) (ts : Array TypeId) (op v0 v1 v2 v3 : Int) (v : Value) (ho : o.op = .call { callee := .value (.func 47), args := #[x, y], argTypes := ts }) (hx : a.eval x = .int .u8 op) (hy : a.eval y = v) (hv : SlB #[.int .i64 v0, .int .i64 v1, .int .i64 v2, .int .i64 v3] 4 v w) (hR : ∀ w', R (insV ⟨op, v0, v1, v2, v3⟩) w') : Ylds o a w Q R := by
  obtain ⟨g, t, rfl, hk⟩ := hv
  refine y_call _ x y ts ho en_instr ?_
  rw [hx, hy]
  refine (e_instr4 op v0 v1 v2 v3 w g t hk).mono fun e w' h => ⟨_, h.1, hR w', h.2⟩
theorem y_emit {cb : Nat} {F : Option Addr} {nf cf : Nat} {cc ss : Int} {q : Value} {l ins : Prg} {K : Act → World → Prop} (x y : Operand) (ts : Array TypeId) (m : Nat) (v : Value) (ho : o.op = .call { callee := .value (.func 46), args := #[x, y], argTypes := ts }) (hx : a.eval x = .pointer (some ⟨cb, 0, none⟩)) (hy : a.eval y = v) (hv : SlB (codeCells ins).toArray m v w) (hm : ins.length = m) (hC : Cod w cb F nf cf cc ss q l) (hl : l.length + m ≤ 1000000)
    (h : ∀ q' w', Cod w' cb F nf cf cc ss q' (l ++ ins) → Emt cb w w' q q' → K (a.put o.dst (.tuple #[])) w') : o.wp Tryz.prog a w K Q := by
  obtain ⟨g, t, rfl, hk⟩ := hv
  have hr : (execOp a.eval o).run Tryz.prog w = .ok (.enter 46 #[a.eval x, a.eval y]) w := by
    unfold execOp
    have e : a.eval (.func 46) = .func (.func 46) #[] #[] := rfl
    simp only [ho, resolve, invoke, Sem.run_bind, Sem.run_pure, Result.andThen_ok, List.map_toArray, List.map_cons, List.map_nil, e, Deferred.ofValue, Array.append_empty, Array.empty_append, en_emit]
  unfold Oper.wp
  rw [hr]
  rw [hx, hy]
  refine Calls.mono (e_emit hC g m t ins hk hm hl) fun en w' hh => ?_
  obtain ⟨q', rfl, h2, h3⟩ := hh
  exact h q' w' h2 h3
end
end Go.Proofs.YtbijhlgdilkopaaGreatDoor
