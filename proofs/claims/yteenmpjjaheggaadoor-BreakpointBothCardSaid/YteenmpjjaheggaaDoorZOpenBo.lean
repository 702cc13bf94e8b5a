/- A list of bools as an argument. -/
import Derived.Test.YteenmpjjaheggaaDoorZOpenI
set_option linter.unusedVariables false
set_option linter.unusedSimpArgs false
set_option maxRecDepth 100000
namespace Bk
open Go
def boolCells (l : List Bool) : List Value := l.map (.bool ·)
theorem boolCells_length (l : List Bool) : (boolCells l).length = l.length := by simp [boolCells]
theorem boolCells_get (l : List Bool) (k : Nat) (h : k < l.length) : (boolCells l)[k]? = some (.bool (l.getD k false)) := by
  simp [boolCells, List.getD_eq_getElem?_getD, h]
end Bk
namespace Go.Proofs.YteenmpjjaheggaaDoor
open Go.RowKit Go.ChangeShapes Go.WideShapes Bk
section
variable {H : Type} {enc : TypeId × Value → H} {w : World} {base : Nat} {spare : Nat → Bool} {held : Bool}
theorem flat_bools (l : List Bool) : (l.flatMap fun x => [Value.bool x]) = boolCells l := by
  unfold boolCells
  induction l with
  | nil => rfl
  | cons a l ih => rw [List.flatMap_cons, ih]; rfl
theorem open_bools {r : Reach} {b0 : Nat} {v : Value} {d : DataW H} {ps : List MemPlace} (hv : Value.okWide Tryd.prog w r b0 44 v) (h : DataW.Trod enc Tryd.prog w base spare held 44 v d ps) :
    ∃ l : List Bool, Sl w (· < w.heap.size) 1 v l.length (boolCells l) := by
  obtain ⟨a, len, cap, rfl⟩ := okWide_slice Tryd.underlying44 hv
  obtain ⟨fuel, hn⟩ := h
  obtain ⟨A, n, cap', l, e, rfl, h1, h2, h3, _⟩ := trod_slG (Q := fun _ _ => True) Tryd.underlying44 cells_bool Nat.one_pos false (fun x => [.bool x]) (fun _ => rfl) (fun _ _ _ h => let ⟨b, hb⟩ := trod_b h; ⟨b, trivial, hb⟩) (c := .slice a len cap) (by simpa [Value.cells] using hn)
  rw [flat_bools] at h3
  exact ⟨l, A, cap', e, h1, h2, h3⟩
end
end Go.Proofs.YteenmpjjaheggaaDoor
