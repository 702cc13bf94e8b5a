/- A list of numbers, a byte, a number as arguments. -/
import Derived.Test.YteenmpjjaheggaaDoorOpX
set_option linter.unusedVariables false
set_option linter.unusedSimpArgs false
set_option maxRecDepth 100000
namespace Go.Proofs.YteenmpjjaheggaaDoor
open Go.RowKit Go.ChangeShapes Go.WideShapes Bk
section
variable {H : Type} {enc : TypeId × Value → H} {w : World} {base : Nat} {spare : Nat → Bool} {held : Bool}
theorem open_intsV {r : Reach} {b0 : Nat} {v : Value} {d : DataW H} {ps : List MemPlace} (hv : Value.okWide Tryd.prog w r b0 23 v) (h : DataW.Trod enc Tryd.prog w base spare held 23 v d ps) :
    ∃ l : List Int, (∀ y ∈ l, I64 y) ∧ Sl w (· < w.heap.size) 1 v l.length (intCells l) := by
  obtain ⟨a, len, cap, rfl⟩ := okWide_slice Tryd.underlying23 hv
  obtain ⟨fuel, hn⟩ := h
  obtain ⟨l, h1, h2, _⟩ := trod_ints (c := .slice a len cap) (by simpa [Value.cells] using hn)
  exact ⟨l, h1, h2⟩
theorem open_u8 {r : Reach} {b0 : Nat} {v : Value} {d : DataW H} {ps : List MemPlace} (hv : Value.okWide Tryd.prog w r b0 5 v) (h : DataW.Trod enc Tryd.prog w base spare held 5 v d ps) : ∃ n : Int, v = .int .u8 n ∧ 0 ≤ n ∧ n ≤ 255 := by obtain ⟨n, rfl, _, _, hw⟩ := open_int Tryd.underlying5 hv h; exact ⟨n, rfl, (wf8 hw).1, (wf8 hw).2⟩
theorem open_i64 {r : Reach} {b0 : Nat} {v : Value} {d : DataW H} {ps : List MemPlace} (hv : Value.okWide Tryd.prog w r b0 3 v) (h : DataW.Trod enc Tryd.prog w base spare held 3 v d ps) :
    ∃ n : Int, v = .int .i64 n ∧ I64 n := by
  obtain ⟨n, rfl, _, _, hw⟩ := open_int Tryd.underlying3 hv h
  exact ⟨n, rfl, i64_of hw⟩
end
end Go.Proofs.YteenmpjjaheggaaDoor
