/- Steps of a region that draws its order, one operation at a time; a VM's value. -/
import Derived.Test.YteenmpjjaheggaaDoorLwG
set_option linter.unusedVariables false
set_option linter.unusedSimpArgs false
set_option maxRecDepth 100000
namespace Bk
open Go Go.RowKit
/-- A struct is loaded. -/
theorem wp_loadR {P : Program} {o : Oper} {a : Act} {w : World} {K : Act → World → Prop} {Q : Exit → Act → World → Prop} (ty : TypeId) {x : Operand} (ho : o.op = .load ty x) {p : Value} (hx : a.eval x = p) {v : Value} (h : (Instr.loadAt ty p).run P w = .ok v w)
    (hk : K (a.put o.dst v) w) : o.wp P a w K Q := by
  unfold Oper.wp execOp
  simp only [ho, hx, h, Sem.run_bind, Sem.run_pure, Result.andThen_ok]
  exact hk
theorem yields_load {P : Program} {S : World → Prop} {o : Oper} {a : Act} (ty : TypeId) {x : Operand} (ho : o.op = .load ty x) {p : Value} (hx : a.eval x = p) {v : Value} (h : ∀ w, S w → (Instr.loadAt ty p).run P w = .ok v w) : ∀ w, S w → (execOp a.eval o).run P w = .ok (.value v) w := by
  intro w hS
  unfold execOp
  simp only [ho, hx, h w hS, Sem.run_bind, Sem.run_pure, Result.andThen_ok]
theorem list16 {l : List Int} (h : l.length = 16) : ∃ a0 a1 a2 a3 a4 a5 a6 a7 a8 a9 a10 a11 a12 a13 a14 a15, l = [a0, a1, a2, a3, a4, a5, a6, a7, a8, a9, a10, a11, a12, a13, a14, a15] := by
  match l, h with
  | [a0, a1, a2, a3, a4, a5, a6, a7, a8, a9, a10, a11, a12, a13, a14, a15], _ => exact ⟨_, _, _, _, _, _, _, _, _, _, _, _, _, _, _, _, rfl⟩
end Bk
namespace Bk
open Go Go.RowKit
theorem wp_buildR {P : Program} {o : Oper} {a : Act} {w : World} {K : Act → World → Prop} {Q : Exit → Act → World → Prop} (ty : TypeId) {parts : Array (Nat × Operand)} (ho : o.op = .build ty parts) {cells : Array Value}
    {ps : List (Nat × Value)} (hp : parts.toList.map (fun x => (x.1, a.eval x.2)) = ps) (h : P.built ty ps = some cells) (hk : K (a.put o.dst (.agg cells)) w) : o.wp P a w K Q := by
  have h' : P.built ty (parts.map fun (i, x) => (i, a.eval x)).toList = some cells := by
    rw [Array.toList_map]; rw [← hp] at h; exact h
  unfold Oper.wp execOp
  simp only [ho, run_build w ty _ cells h', Sem.run_bind, Sem.run_pure, Result.andThen_ok]
  exact hk
/-- A machine by value is laid amid a block of a struct. -/
theorem MOwn.onP {w : World} {B b : Nat} {t : TypeId} {pre post : List Value} {M : Mach} {vm vs vc vi vo : Value} {sv : List Value} (h : MOwn w B M vm vs vc vi vo sv) (w' : World) (hw : Below w.heap.size w w') (hk : Blk w' b t (pre ++ mcells M vm vs vc vi vo ++ post).toArray) (hb : b < B ∨ w.heap.size ≤ b) :
    ∃ gm gs, B ≤ gm ∧ B ≤ gs ∧ gm < w.heap.size ∧ gs < w.heap.size ∧ MOn w' ⟨b, t, pre, post, pre.length, gm, gs, (· < B)⟩ M vm vs vc vi vo sv := by
  have h' := h.next hw
  obtain ⟨h0, gm, gs, h1, h2, h3, h4, h5, h6, h7, h8⟩ := h
  refine ⟨gm, gs, h1, h2, h3, h4, rfl, h0, hk, h6.keep fun _ => hw.block _ h3, h7.keep fun _ => hw.block _ h4, Nat.lt_of_lt_of_le h3 hw.size, Nat.lt_of_lt_of_le h4 hw.size, fun hn => ⟨by dsimp only; omega, h5 hn⟩, fun _ => by dsimp only; omega, ?_, fun k hk => by have := hw.size; dsimp only at hk; omega⟩
  refine h8.keep (fun b o hd => hw.cell (p := ⟨b, o, none⟩) hd.2.1) fun k hk => ⟨Nat.lt_of_lt_of_le hk.2.1 hw.size, fun ho => ?_⟩
  obtain ⟨k1, k2, k3, k4⟩ := hk
  rcases ho with e | e | e | e <;> dsimp only at e <;> omega
end Bk
namespace Bk
open Go Go.RowKit
/-- A clone is a machine of its own. -/
theorem MOn.own {w : World} {B b gm gs : Nat} {t : TypeId} {pre post : List Value} {off : Nat} {M : Mach} {vm vs vc vi vo : Value} {sv : List Value} (h : MOn w ⟨b, t, pre, post, off, gm, gs, (· < B)⟩ M vm vs vc vi vo sv) (h2 : B ≤ gm) (h3 : B ≤ gs) : MOwn w B M vm vs vc vi vo sv := by
  refine ⟨h.rl, gm, gs, h2, h3, h.gm, h.gs, fun hn => (h.am hn).2, h.m, h.s, h.l.keep (fun _ _ _ => rfl) fun k hk => ?_⟩
  have e := hk.2
  refine ⟨?_, hk.1, fun e' => e (.inr (.inl e')), fun e' => e (.inr (.inr (.inl e')))⟩
  rcases Nat.lt_or_ge k B with hlt | hge
  · exact absurd (.inr (.inr (.inr hlt))) e
  · exact hge
end Bk
