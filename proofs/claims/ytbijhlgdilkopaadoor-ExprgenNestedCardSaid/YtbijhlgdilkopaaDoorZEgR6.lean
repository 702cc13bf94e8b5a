/- Two machines that are both written. -/
import Derived.Test.YtbijhlgdilkopaaDoorZEgR5
set_option linter.unusedVariables false
set_option linter.unusedSimpArgs false
set_option maxRecDepth 100000
set_option maxHeartbeats 4000000
namespace Bk
open Go Go.RowKit
theorem MOwn.lay2 {w1 w2 : World} {lo b : Nat} {t : TypeId} {M : Mach} {vm vs vc vi vo : Value} {sv : List Value} (h : MOwn w1 lo M vm vs vc vi vo sv) (hf : ∀ k, lo ≤ k → k < w1.heap.size → w2.heap[k]? = w1.heap[k]?) (hsz : w1.heap.size ≤ w2.heap.size) (hlo : lo ≤ w2.heap.size)
    (hk : Blk w2 b t (mcells M vm vs vc vi vo).toArray) (hb : b < lo ∨ w1.heap.size ≤ b) :
    ∃ gm gs, lo ≤ gm ∧ lo ≤ gs ∧ gm < w1.heap.size ∧ gs < w1.heap.size ∧ MOn w2 ⟨b, t, [], [], 0, gm, gs, fun k => k < w2.heap.size ∧ (k < lo ∨ w1.heap.size ≤ k)⟩ M vm vs vc vi vo sv := by
  obtain ⟨h0, gm, gs, h1, h2, h3, h4, h5, h6, h7, h8⟩ := h
  refine ⟨gm, gs, h1, h2, h3, h4, rfl, h0, by simpa using hk, h6.keep fun _ => hf _ h1 h3, h7.keep fun _ => hf _ h2 h4, Nat.lt_of_lt_of_le h3 hsz, Nat.lt_of_lt_of_le h4 hsz, fun hn => ⟨by dsimp only; omega, h5 hn⟩, fun _ => by dsimp only; omega, ?_, fun k hk => by dsimp only at hk; omega⟩
  refine h8.keep (fun b o hd => World.cell?_of_block (hf b hd.1 hd.2.1)) fun k hk => ⟨Nat.lt_of_lt_of_le hk.2.1 hsz, fun ho => ?_⟩
  obtain ⟨k1, k2, k3, k4⟩ := hk
  rcases ho with e | e | e | e <;> dsimp only at e <;> omega
end Bk
namespace Go.Proofs.YtbijhlgdilkopaaDoor
open Go.RowKit Bk
/-- Two machines, apart; what is written into one is none of the other's. -/
structure Two2 (B : Nat) (w : World) (M : Mach) (b gm gs b' gm' gs' : Nat) (fx fx' : Nat → Prop) : Prop where
  m : MAt w ⟨b, 51, [], [], 0, gm, gs, fx⟩ M
  m' : MAt w ⟨b', 51, [], [], 0, gm', gs', fx'⟩ M
  n1 : b' ≠ b ∧ b' ≠ gm ∧ b' ≠ gs
  n2 : gm' ≠ b ∧ gm' ≠ gm ∧ gm' ≠ gs ∧ gs' ≠ b ∧ gs' ≠ gm ∧ gs' ≠ gs
  f : ∀ k, (Pl.O ⟨b, 51, [], [], 0, gm, gs, fx⟩ k) → fx' k
  f' : ∀ k, (Pl.O ⟨b', 51, [], [], 0, gm', gs', fx'⟩ k) → fx k
  b : B ≤ b ∧ B ≤ gm ∧ B ≤ gs ∧ B ≤ b' ∧ B ≤ gm' ∧ B ≤ gs'
theorem two_mach2 {B : Nat} {w w1 w3 : World} {M : Mach} {l1 l3 l4 l5 h4 h5 : Nat} {vm vt vm3 vt3 : Value} {sv sv3 : List Value} (m1 : MOwn w1 l1 M vm vt (.slice none 0 0) (.slice none 0 0) (.slice none 0 0) sv) (b1 : Below w1.heap.size w1 w) (m3 : MOwn w3 l3 M vm3 vt3 (.slice none 0 0) (.slice none 0 0) (.slice none 0 0) sv3) (b3 : Below w3.heap.size w3 w)
    (k4 : Blk w l4 51 #[.int .i64 0, .int .i64 0, .int .i64 0, .int .i64 0, .int .i64 0, .int .i64 0, .int .i64 0, .int .i64 0, .int .i64 0, .int .i64 0, .int .i64 0, .int .i64 0, .int .i64 0, .int .i64 0, .int .i64 0, .int .i64 0, .int .i64 0, .int .i64 0, .slice none 0 0, .slice none 0 0, .slice none 0 0, .int .i64 0, .int .i64 0, .slice none 0 0, .slice none 0 0]) (k5 : Blk w l5 51 #[.int .i64 0, .int .i64 0, .int .i64 0, .int .i64 0, .int .i64 0, .int .i64 0, .int .i64 0, .int .i64 0, .int .i64 0, .int .i64 0, .int .i64 0, .int .i64 0, .int .i64 0, .int .i64 0, .int .i64 0, .int .i64 0, .int .i64 0, .int .i64 0, .slice none 0 0, .slice none 0 0, .slice none 0 0, .int .i64 0, .int .i64 0, .slice none 0 0, .slice none 0 0]) (q4 : l4 < h4) (q5 : l5 < h5) (i1 : B ≤ l1 ∧ l1 ≤ w1.heap.size) (i3 : B ≤ l3 ∧ l3 ≤ w3.heap.size) (i4 : B ≤ l4) (i5 : B ≤ l5)
    (d13 : w1.heap.size ≤ l3 ∨ w3.heap.size ≤ l1) (d14 : w1.heap.size ≤ l4 ∨ h4 ≤ l1) (d15 : w1.heap.size ≤ l5 ∨ h5 ≤ l1) (d34 : w3.heap.size ≤ l4 ∨ h4 ≤ l3) (d35 : w3.heap.size ≤ l5 ∨ h5 ≤ l3) (d45 : h4 ≤ l5 ∨ h5 ≤ l4)
    (w' : World) (hw : w' = (w.setRow l4 (mcells M vm vt (.slice none 0 0) (.slice none 0 0) (.slice none 0 0)).toArray).setRow l5 (mcells M vm3 vt3 (.slice none 0 0) (.slice none 0 0) (.slice none 0 0)).toArray) :
    ∃ gm gs gm' gs' fx fx', Two2 B w' M l4 gm gs l5 gm' gs' fx fx' ∧ (B ≤ w.heap.size → Below B w w') := by
  have hf : ∀ k, k ≠ l4 → k ≠ l5 → w'.heap[k]? = w.heap[k]? := fun k n4 n5 => by
    rw [hw, setRow_other _ _ _ _ n5, setRow_other _ _ _ _ n4]
  have hsz : w'.heap.size = w.heap.size := by rw [hw]; simp
  have z1 := b1.size; have z3 := b3.size
  have e4 : Blk w' l4 51 (mcells M vm vt (.slice none 0 0) (.slice none 0 0) (.slice none 0 0)).toArray := by
    have : w'.heap[l4]? = (w.setRow l4 (mcells M vm vt (.slice none 0 0) (.slice none 0 0) (.slice none 0 0)).toArray).heap[l4]? := by rw [hw, setRow_other _ _ _ _ (by omega)]
    exact this.trans (setRow_heap _ _ _ _ _ _ k4)
  have e5 : Blk w' l5 51 (mcells M vm3 vt3 (.slice none 0 0) (.slice none 0 0) (.slice none 0 0)).toArray := by
    rw [hw]; exact setRow_heap _ _ _ _ _ _ ((setRow_other _ _ _ _ (by omega)).trans k5)
  obtain ⟨gm, gs, p1, p2, p3, p4, hm⟩ := m1.lay2 (w2 := w') (b := l4) (t := 51) (fun k hk1 hk2 => (hf k (by omega) (by omega)).trans (b1.block _ hk2)) (by omega) (by omega) e4 (by omega)
  obtain ⟨gm', gs', p1', p2', p3', p4', hm'⟩ := m3.lay2 (w2 := w') (b := l5) (t := 51) (fun k hk1 hk2 => (hf k (by omega) (by omega)).trans (b3.block _ hk2)) (by omega) (by omega) e5 (by omega)
  have l4w := k4.lt; have l5w := k5.lt
  refine ⟨gm, gs, gm', gs', _, _, ⟨⟨_, _, _, _, _, _, hm⟩, ⟨_, _, _, _, _, _, hm'⟩, by omega, by omega, fun k hk => ?_, fun k hk => ?_, by omega⟩, fun hB => ?_⟩
  · rcases hk with e | e | e <;> (dsimp only at e; subst e; exact ⟨by omega, by omega⟩)
  · rcases hk with e | e | e <;> (dsimp only at e; subst e; exact ⟨by omega, by omega⟩)
  have f1 : Fr (· = l4) w (w.setRow l4 (mcells M vm vt (.slice none 0 0) (.slice none 0 0) (.slice none 0 0)).toArray) := Fr.setRowE _ _ _
  have f2 := Fr.setRowE (w.setRow l4 (mcells M vm vt (.slice none 0 0) (.slice none 0 0) (.slice none 0 0)).toArray) l5 (mcells M vm3 vt3 (.slice none 0 0) (.slice none 0 0) (.slice none 0 0)).toArray
  have g1 := f1.below hB (fun k hk => by omega)
  have g2 := f2.below (B := B) (by simp; omega) (fun k hk => by omega)
  rw [hw]; exact g1.trans g2
end Go.Proofs.YtbijhlgdilkopaaDoor
