/- A node as an argument. -/
import Derived.Test.YtbijhlgdilkopaaGreatDoorZOpenE
set_option linter.unusedVariables false
set_option linter.unusedSimpArgs false
set_option maxRecDepth 100000
namespace Go.Proofs.YtbijhlgdilkopaaGreatDoor
open Go.RowKit Go.ChangeShapes Go.WideShapes Bk
section
variable {H : Type} {enc : TypeId × Value → H} {w : World} {base : Nat} {spare : Nat → Bool} {held : Bool}
theorem open_node {r : Reach} {b0 : Nat} {v : Value} {d : DataW H} {ps : List MemPlace} (hv : Value.okWide Tryz.prog w r b0 24 v) (h : DataW.Trod enc Tryz.prog w base spare held 24 v d ps) :
    ∃ (dd : Nat) (y : Nd), v = .agg #[.int .u8 y.k, .int .i64 y.num, .string y.nm, .slice y.A y.n y.cap] ∧ KV w w.heap.size dd y := by
  obtain ⟨cs, rfl, _⟩ := okWide_struct Tryz.underlying24 hv
  obtain ⟨fuel, hn⟩ := h
  obtain ⟨cs⟩ := cs
  obtain ⟨y, hy, hk⟩ := trod_node fuel cs (d, ps) hn
  refine ⟨fuel, y, ?_, hk⟩
  rw [hy]; rfl
end
end Go.Proofs.YtbijhlgdilkopaaGreatDoor
