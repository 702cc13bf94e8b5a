/- Two machines, laid by one region that draws its order: the operations, and what their values are. -/
import Derived.Test.YtbijhlgdilkopaaDoorZEgR4
import Derived.Test.YtbijhlgdilkopaaDoorEwX
set_option linter.unusedVariables false
set_option linter.unusedSimpArgs false
set_option maxRecDepth 100000
set_option maxHeartbeats 4000000
namespace Bk
open Go Go.RowKit
theorem MOwn.lay {w1 w2 : World} {lo b : Nat} {t : TypeId} {M : Mach} {vm vs vc vi vo : Value} {sv : List Value} (h : MOwn w1 lo M vm vs vc vi vo sv) (hf : ∀ k, lo ≤ k → k < w1.heap.size → w2.heap[k]? = w1.heap[k]?) (hsz : w1.heap.size ≤ w2.heap.size) (hlo : lo ≤ w2.heap.size)
    (hk : Blk w2 b t (mcells M vm vs vc vi vo).toArray) (hb : b < lo ∨ w1.heap.size ≤ b) :
    ∃ gm gs, lo ≤ gm ∧ lo ≤ gs ∧ gm < w1.heap.size ∧ gs < w1.heap.size ∧ MOn w2 ⟨b, t, [], [], 0, gm, gs, (· < lo)⟩ M vm vs vc vi vo sv := by
  obtain ⟨h0, gm, gs, h1, h2, h3, h4, h5, h6, h7, h8⟩ := h
  refine ⟨gm, gs, h1, h2, h3, h4, rfl, h0, by simpa using hk, h6.keep fun _ => hf _ h1 h3, h7.keep fun _ => hf _ h2 h4, Nat.lt_of_lt_of_le h3 hsz, Nat.lt_of_lt_of_le h4 hsz, fun hn => ⟨by dsimp only; omega, h5 hn⟩, fun _ => by dsimp only; omega, ?_, fun k hk => by dsimp only at hk; omega⟩
  refine h8.keep (fun b o hd => World.cell?_of_block (hf b hd.1 hd.2.1)) fun k hk => ⟨Nat.lt_of_lt_of_le hk.2.1 hsz, fun ho => ?_⟩
  obtain ⟨k1, k2, k3, k4⟩ := hk
  rcases ho with e | e | e | e <;> dsimp only at e <;> omega
end Bk
namespace Go.Proofs.YtbijhlgdilkopaaDoor
open Go.RowKit Bk
section
variable {o : Oper} {a : Act} {w : World} {Q : Exit → Act → World → Prop} {R : Value → World → Prop}
theorem y_allocM (ho : o.op = .alloc 51) (hR : R (.pointer (some ⟨w.heap.size, 0, none⟩)) (w.alloc (.cells #[.int .i64 0, .int .i64 0, .int .i64 0, .int .i64 0, .int .i64 0, .int .i64 0, .int .i64 0, .int .i64 0, .int .i64 0, .int .i64 0, .int .i64 0, .int .i64 0, .int .i64 0, .int .i64 0, .int .i64 0, .int .i64 0, .int .i64 0, .int .i64 0, .slice none 0 0, .slice none 0 0, .slice none 0 0, .int .i64 0, .int .i64 0, .slice none 0 0, .slice none 0 0] 51))) : Ylds o a w Q R := by
  have hr : (Instr.alloc 51 true (.tuple #[])).run Tryd.prog w = .ok (.pointer (some ⟨w.heap.size, 0, none⟩)) (w.alloc (.cells #[.int .i64 0, .int .i64 0, .int .i64 0, .int .i64 0, .int .i64 0, .int .i64 0, .int .i64 0, .int .i64 0, .int .i64 0, .int .i64 0, .int .i64 0, .int .i64 0, .int .i64 0, .int .i64 0, .int .i64 0, .int .i64 0, .int .i64 0, .int .i64 0, .slice none 0 0, .slice none 0 0, .slice none 0 0, .int .i64 0, .int .i64 0, .slice none 0 0, .slice none 0 0] 51)) := rfl
  unfold Ylds Oper.wp execOp
  simp only [ho, hr, Sem.run_bind, Sem.run_pure, Result.andThen_ok]
  exact ⟨_, rfl, hR, (Below.refl _ _).alloc (Nat.le_refl _) _⟩
theorem y_call1 (f : FuncId) (x : Operand) (ts : Array TypeId) (ho : o.op = .call { callee := .value (.func f), args := #[x], argTypes := ts }) (he : ∀ (args : Array Value) (w : World), (callFunc f args).run Tryd.prog w = .ok (.enter f args) w) (h : Calls Tryd.prog f #[a.eval x] w fun e w' => ∃ v, e = .returned v ∧ R v w' ∧ Below w.heap.size w w') : Ylds o a w Q R := by
  have hr : (execOp a.eval o).run Tryd.prog w = .ok (.enter f #[a.eval x]) w := by
    unfold execOp
    have e : a.eval (.func f) = .func (.func f) #[] #[] := rfl
    simp only [ho, resolve, invoke, Sem.run_bind, Sem.run_pure, Result.andThen_ok, List.map_toArray, List.map_cons, List.map_nil, e, Deferred.ofValue, Array.append_empty, Array.empty_append, he]
  unfold Ylds Oper.wp
  rw [hr]
  refine Calls.mono h fun en w' hh => ?_
  obtain ⟨v, rfl, h2, h3⟩ := hh
  exact ⟨v, rfl, h2, h3⟩
theorem y_loadC (x : Operand) (ho : o.op = .load 29 x) (h : Nat) (t : TypeId) {k num fp sb : Int} {nm : ByteArray} {A V C G E : Option Addr} {n cap nv cv nc cc ng cg ne ce : Nat} (hx : a.eval x = .pointer (some ⟨h, 0, none⟩)) (hk : Blk w h t #[.int .u8 k, .int .i64 num, .string nm, .slice A n cap, .slice V nv cv, .slice C nc cc, .int .i64 fp, .int .i64 sb, .slice G ng cg, .slice E ne ce]) (hR : R (.agg #[.int .u8 k, .int .i64 num, .string nm, .slice A n cap, .slice V nv cv, .slice C nc cc, .int .i64 fp, .int .i64 sb, .slice G ng cg, .slice E ne ce]) w) : Ylds o a w Q R := by
  have hl : (Instr.loadAt 29 (.pointer (some ⟨h, 0, none⟩))).run Tryd.prog w = .ok (.agg #[.int .u8 k, .int .i64 num, .string nm, .slice A n cap, .slice V nv cv, .slice C nc cc, .int .i64 fp, .int .i64 sb, .slice G ng cg, .slice E ne ce]) w :=
    run_loadAt_mid w h 0 29 [.int .u8 k, .int .i64 num, .string nm, .slice A n cap, .slice V nv cv, .slice C nc cc, .int .i64 fp, .int .i64 sb, .slice G ng cg, .slice E ne ce] _ (fun j v hv => by rw [Nat.zero_add]; exact (hk.cell j).trans (by rw [List.getElem?_toArray]; exact hv)) Tryd.underlying29 rfl (by kernel_rfl)
  unfold Ylds Oper.wp execOp
  simp only [ho, hx, hl, Sem.run_bind, Sem.run_pure, Result.andThen_ok]
  exact ⟨_, rfl, hR, Below.refl _ _⟩
end
/-- The values of the region: 0, 2 load the case; 1, 3 make machines; 4, 5 lay blocks for them. -/
def PrB (cv : Value) (M : Mach) (i lo hi : Nat) (v : Value) (w : World) : Prop :=
  if i = 0 ∨ i = 2 then v = cv
  else if i = 1 ∨ i = 3 then ∃ vm vt sv w1, w1.heap.size = hi ∧ v = .agg (mcells M vm vt (.slice none 0 0) (.slice none 0 0) (.slice none 0 0)).toArray ∧ MOwn w1 lo M vm vt (.slice none 0 0) (.slice none 0 0) (.slice none 0 0) sv ∧ Below w1.heap.size w1 w
  else v = .pointer (some ⟨lo, 0, none⟩) ∧ lo < hi ∧ Blk w lo 51 #[.int .i64 0, .int .i64 0, .int .i64 0, .int .i64 0, .int .i64 0, .int .i64 0, .int .i64 0, .int .i64 0, .int .i64 0, .int .i64 0, .int .i64 0, .int .i64 0, .int .i64 0, .int .i64 0, .int .i64 0, .int .i64 0, .int .i64 0, .int .i64 0, .slice none 0 0, .slice none 0 0, .slice none 0 0, .int .i64 0, .int .i64 0, .slice none 0 0, .slice none 0 0]
theorem PrB_next (cv : Value) (M : Mach) (i lo hi : Nat) (v : Value) (w w' : World) (h : PrB cv M i lo hi v w) (hb : Below w.heap.size w w') : PrB cv M i lo hi v w' := by
  unfold PrB at h ⊢
  split
  · rename_i e; rw [if_pos e] at h; exact h
  · rename_i e; rw [if_neg e] at h
    split
    · rename_i e2; rw [if_pos e2] at h
      obtain ⟨vm, vt, sv, w1, h1, h2, h3, h4⟩ := h
      exact ⟨vm, vt, sv, w1, h1, h2, h3, h4.next hb⟩
    · rename_i e2; rw [if_neg e2] at h
      exact ⟨h.1, h.2.1, h.2.2.next hb⟩
theorem PrB_m {cv : Value} {M : Mach} {i lo hi : Nat} {v : Value} {w : World} (hi' : i = 1 ∨ i = 3) (h : PrB cv M i lo hi v w) : ∃ vm vt sv w1, w1.heap.size = hi ∧ v = .agg (mcells M vm vt (.slice none 0 0) (.slice none 0 0) (.slice none 0 0)).toArray ∧ MOwn w1 lo M vm vt (.slice none 0 0) (.slice none 0 0) (.slice none 0 0) sv ∧ Below w1.heap.size w1 w := by
  unfold PrB at h
  rw [if_neg (by omega), if_pos hi'] at h
  exact h
theorem PrB_b {cv : Value} {M : Mach} {i lo hi : Nat} {v : Value} {w : World} (hi' : i = 4 ∨ i = 5) (h : PrB cv M i lo hi v w) : v = .pointer (some ⟨lo, 0, none⟩) ∧ lo < hi ∧ Blk w lo 51 #[.int .i64 0, .int .i64 0, .int .i64 0, .int .i64 0, .int .i64 0, .int .i64 0, .int .i64 0, .int .i64 0, .int .i64 0, .int .i64 0, .int .i64 0, .int .i64 0, .int .i64 0, .int .i64 0, .int .i64 0, .int .i64 0, .int .i64 0, .int .i64 0, .slice none 0 0, .slice none 0 0, .slice none 0 0, .int .i64 0, .int .i64 0, .slice none 0 0, .slice none 0 0] := by
  unfold PrB at h
  rw [if_neg (by omega), if_neg (by omega)] at h
  exact h
theorem PrB_c {cv : Value} {M : Mach} {i lo hi : Nat} {v : Value} {w : World} (hi' : i = 0 ∨ i = 2) (h : PrB cv M i lo hi v w) : v = cv := by
  unfold PrB at h
  rw [if_pos hi'] at h
  exact h
theorem en_mach : ∀ (args : Array Value) (w : World), (callFunc 16 args).run Tryd.prog w = .ok (.enter 16 args) w := enters_of Tryd.func16 (by kernel_rfl) rfl
theorem mown_one {w : World} {lo : Nat} {M : Mach} {vm vt : Value} {sv : List Value} (ho : MOwn w lo M vm vt (.slice none 0 0) (.slice none 0 0) (.slice none 0 0) sv) : (mcells M vm vt (.slice none 0 0) (.slice none 0 0) (.slice none 0 0)).toArray.all (·.oneCell') = true :=
  all_oneCell_toArray (mc_one (by obtain ⟨_, _, e, _⟩ := ho.mls.m; subst e; rfl) (by obtain ⟨_, _, e, _⟩ := ho.mls.s; subst e; rfl) rfl rfl rfl)
/-- Two machines, each in a block of its own: the first to be run, the second to be read. -/
structure Two (B : Nat) (w : World) (M : Mach) (b gm gs lo b' : Nat) : Prop where
  m : MAt w ⟨b, 51, [], [], 0, gm, gs, (· < lo)⟩ M
  r : ∃ D vm vs vc vi vo sv, MRd w D b' 0 M vm vs vc vi vo sv ∧ b' ≠ b ∧ b' ≠ gm ∧ b' ≠ gs ∧ ∀ k, D k → k ≠ b ∧ k ≠ gm ∧ k ≠ gs
  b : B ≤ b ∧ B ≤ gm ∧ B ≤ gs ∧ B ≤ lo
theorem two_mach {B : Nat} {w w1 w3 : World} {M : Mach} {l1 l3 l4 l5 h4 h5 : Nat} {vm vt vm3 vt3 : Value} {sv sv3 : List Value} (m1 : MOwn w1 l1 M vm vt (.slice none 0 0) (.slice none 0 0) (.slice none 0 0) sv) (b1 : Below w1.heap.size w1 w) (m3 : MOwn w3 l3 M vm3 vt3 (.slice none 0 0) (.slice none 0 0) (.slice none 0 0) sv3) (b3 : Below w3.heap.size w3 w)
    (k4 : Blk w l4 51 #[.int .i64 0, .int .i64 0, .int .i64 0, .int .i64 0, .int .i64 0, .int .i64 0, .int .i64 0, .int .i64 0, .int .i64 0, .int .i64 0, .int .i64 0, .int .i64 0, .int .i64 0, .int .i64 0, .int .i64 0, .int .i64 0, .int .i64 0, .int .i64 0, .slice none 0 0, .slice none 0 0, .slice none 0 0, .int .i64 0, .int .i64 0, .slice none 0 0, .slice none 0 0]) (k5 : Blk w l5 51 #[.int .i64 0, .int .i64 0, .int .i64 0, .int .i64 0, .int .i64 0, .int .i64 0, .int .i64 0, .int .i64 0, .int .i64 0, .int .i64 0, .int .i64 0, .int .i64 0, .int .i64 0, .int .i64 0, .int .i64 0, .int .i64 0, .int .i64 0, .int .i64 0, .slice none 0 0, .slice none 0 0, .slice none 0 0, .int .i64 0, .int .i64 0, .slice none 0 0, .slice none 0 0]) (q4 : l4 < h4) (q5 : l5 < h5) (i1 : B ≤ l1 ∧ l1 ≤ w1.heap.size) (i3 : B ≤ l3 ∧ l3 ≤ w3.heap.size) (i4 : B ≤ l4) (i5 : B ≤ l5)
    (d13 : w1.heap.size ≤ l3 ∨ w3.heap.size ≤ l1) (d14 : w1.heap.size ≤ l4 ∨ h4 ≤ l1) (d15 : w1.heap.size ≤ l5 ∨ h5 ≤ l1) (d34 : w3.heap.size ≤ l4 ∨ h4 ≤ l3) (d35 : w3.heap.size ≤ l5 ∨ h5 ≤ l3) (d45 : h4 ≤ l5 ∨ h5 ≤ l4)
    (w' : World) (hw : w' = (w.setRow l4 (mcells M vm vt (.slice none 0 0) (.slice none 0 0) (.slice none 0 0)).toArray).setRow l5 (mcells M vm3 vt3 (.slice none 0 0) (.slice none 0 0) (.slice none 0 0)).toArray) :
    ∃ gm gs, Two B w' M l4 gm gs l1 l5 ∧ (B ≤ w.heap.size → Below B w w') := by
  have hf : ∀ k, k ≠ l4 → k ≠ l5 → w'.heap[k]? = w.heap[k]? := fun k n4 n5 => by
    rw [hw, setRow_other _ _ _ _ n5, setRow_other _ _ _ _ n4]
  have hsz : w'.heap.size = w.heap.size := by rw [hw]; simp
  have z1 := b1.size; have z3 := b3.size
  have e4 : Blk w' l4 51 (mcells M vm vt (.slice none 0 0) (.slice none 0 0) (.slice none 0 0)).toArray := by
    have : w'.heap[l4]? = (w.setRow l4 (mcells M vm vt (.slice none 0 0) (.slice none 0 0) (.slice none 0 0)).toArray).heap[l4]? := by rw [hw, setRow_other _ _ _ _ (by omega)]
    exact this.trans (setRow_heap _ _ _ _ _ _ k4)
  have e5 : Blk w' l5 51 (mcells M vm3 vt3 (.slice none 0 0) (.slice none 0 0) (.slice none 0 0)).toArray := by
    rw [hw]; exact setRow_heap _ _ _ _ _ _ ((setRow_other _ _ _ _ (by omega)).trans k5)
  obtain ⟨gm, gs, p1, p2, p3, p4, hm⟩ := m1.lay (w2 := w') (b := l4) (t := 51) (fun k hk1 hk2 => (hf k (by omega) (by omega)).trans (b1.block _ hk2)) (by omega) (by omega) e4 (by omega)
  obtain ⟨gm', gs', p1', p2', p3', p4', hm'⟩ := m3.lay (w2 := w') (b := l5) (t := 51) (fun k hk1 hk2 => (hf k (by omega) (by omega)).trans (b3.block _ hk2)) (by omega) (by omega) e5 (by omega)
  refine ⟨gm, gs, ⟨hm.mat, ⟨fun k => l3 ≤ k ∧ k < w3.heap.size, _, _, _, _, _, _, (m3.mls.keep (w' := w') (D' := fun k => l3 ≤ k ∧ k < w3.heap.size) (fun b o hd => World.cell?_of_block ((hf b (by omega) (by omega)).trans (b3.block _ hd.2))) (fun _ h => h) (fun k hk => by omega)).at_ e5, by omega, by omega, by omega, fun k hk => by omega⟩, by omega⟩, fun hB => ?_⟩
  have f1 : Fr (· = l4) w (w.setRow l4 (mcells M vm vt (.slice none 0 0) (.slice none 0 0) (.slice none 0 0)).toArray) := Fr.setRowE _ _ _
  have f2 := Fr.setRowE (w.setRow l4 (mcells M vm vt (.slice none 0 0) (.slice none 0 0) (.slice none 0 0)).toArray) l5 (mcells M vm3 vt3 (.slice none 0 0) (.slice none 0 0) (.slice none 0 0)).toArray
  have g1 := f1.below hB (fun k hk => by omega)
  have g2 := f2.below (B := B) (by simp; omega) (fun k hk => by omega)
  rw [hw]; exact g1.trans g2
end Go.Proofs.YtbijhlgdilkopaaDoor
