/- Declarations as an argument. -/
import Derived.Test.YtbijhlgdilkopaaGreatDoorZOpenN
set_option linter.unusedVariables false
set_option linter.unusedSimpArgs false
set_option maxRecDepth 100000
namespace Go.Proofs.YtbijhlgdilkopaaGreatDoor
open Go.RowKit Go.ChangeShapes Go.WideShapes Bk
section
variable {H : Type} {enc : TypeId × Value → H} {w : World} {base : Nat} {spare : Nat → Bool} {held : Bool}
theorem open_vds {r : Reach} {b0 : Nat} {v : Value} {d : DataW H} {ps : List MemPlace} (hv : Value.okWide Tryz.prog w r b0 25 v) (h : DataW.Trod enc Tryz.prog w base spare held 25 v d ps) :
    ∃ (A : Option Addr) (n cap : Nat) (l : List Vr), v = .slice A n cap ∧ l.length = n ∧ n ≤ cap ∧ VsAt w w.heap.size A l := by
  obtain ⟨a, len, cap0, rfl⟩ := okWide_slice Tryz.underlying25 hv
  obtain ⟨fuel, hn⟩ := h
  obtain ⟨A, n, cap, l, e, hl, hc, _, hr, _⟩ := trod_slG (Q := fun _ _ => True) Tryz.underlying25 cells_vd (by decide) (⟨⟨#[]⟩, 0, 0⟩ : Vr) (fun v => [.string v.nm, .int .u8 v.k, .int .i64 v.len]) (fun _ => rfl) (fun _ _ _ h => let ⟨a, ha⟩ := trod_vd h; ⟨a, trivial, ha⟩) (c := .slice a len cap0) (by simpa [Value.cells] using hn)
  rw [varCells_flat] at hr
  refine ⟨A, n, cap, l, e, hl, hc, fun i v hv => ?_⟩
  obtain ⟨g, o, e, hg, hc⟩ := hr.2 (by have := (List.getElem?_eq_some_iff.1 hv).1; omega)
  obtain ⟨t0, t1, t2⟩ := varCells_get l i v hv
  exact ⟨g, o, e, hg, hc _ _ t0, hc _ _ t1, hc _ _ t2⟩
end
end Go.Proofs.YtbijhlgdilkopaaGreatDoor
