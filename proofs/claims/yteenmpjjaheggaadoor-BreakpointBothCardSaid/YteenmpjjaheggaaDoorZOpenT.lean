/- What a predicate of layer 34 that comes in reads as. -/
import Derived.Test.YteenmpjjaheggaaDoorOpX
import Derived.Test.YteenmpjjaheggaaDoorZOpenI
set_option linter.unusedVariables false
set_option linter.unusedSimpArgs false
set_option maxRecDepth 100000
set_option maxHeartbeats 8000000
set_option maxRecDepth 100000
namespace Go.Proofs.YteenmpjjaheggaaDoor
open Go.RowKit Go.ChangeShapes Go.WideShapes Bk
section
variable {H : Type} {enc : TypeId × Value → H} {w : World} {base : Nat} {spare : Nat → Bool} {held : Bool}
theorem trod_tst {fuel : Nat} {cs : List Value} {x : DataW H × List MemPlace} (h : DataW.trod enc Tryd.prog w base spare held fuel 42 cs = some x) :
    ∃ k a b : Int, (0 ≤ k ∧ k ≤ 255) ∧ I64 a ∧ I64 b ∧ cs = [.int .u8 k, .int .i64 a, .int .i64 b] := by
  obtain ⟨ys, n, _, _, hcl, hl, hf⟩ := DataW.trod_struct Tryd.underlying42 h
  rw [show Tryd.prog.cellsOf 42 = 3 by kernel_rfl] at hcl
  match cs, hcl with
  | [c0, c1, c2], _ =>
    have g : ∀ (i : Nat), i < 3 → ∃ y, ys[i]? = some y := fun i hi => ⟨_, List.getElem?_eq_getElem (by rw [hl]; exact hi)⟩
    obtain ⟨y0, e0⟩ := g 0 (by decide)
    obtain ⟨y1, e1⟩ := g 1 (by decide)
    obtain ⟨y2, e2⟩ := g 2 (by decide)
    obtain ⟨n0, rfl, w0⟩ := trod_one (c := c0) Tryd.underlying5 (by simpa [cells_u8] using hf 0 _ rfl) e0
    obtain ⟨n1, rfl, w1⟩ := trod_one (c := c1) Tryd.underlying3 (by simpa [cells_int] using hf 1 _ rfl) e1
    obtain ⟨n2, rfl, w2⟩ := trod_one (c := c2) Tryd.underlying3 (by simpa [cells_int] using hf 2 _ rfl) e2
    exact ⟨n0, n1, n2, wf8 w0, i64_of w1, i64_of w2, rfl⟩
theorem open_tst {r : Reach} {b0 : Nat} {v : Value} {d : DataW H} {ps : List MemPlace} (hv : Value.okWide Tryd.prog w r b0 42 v) (h : DataW.Trod enc Tryd.prog w base spare held 42 v d ps) :
    ∃ k a b : Int, (0 ≤ k ∧ k ≤ 255) ∧ I64 a ∧ I64 b ∧ v = .agg #[.int .u8 k, .int .i64 a, .int .i64 b] := by
  obtain ⟨cs, rfl, hsz⟩ := okWide_struct Tryd.underlying42 hv
  obtain ⟨n, hn⟩ := h
  obtain ⟨k, a, b, h1, h2, h3, he⟩ := trod_tst hn
  refine ⟨k, a, b, h1, h2, h3, ?_⟩
  obtain ⟨l⟩ := cs
  have he' : l = [.int .u8 k, .int .i64 a, .int .i64 b] := he
  subst he'
  rfl
end
end Go.Proofs.YteenmpjjaheggaaDoor
