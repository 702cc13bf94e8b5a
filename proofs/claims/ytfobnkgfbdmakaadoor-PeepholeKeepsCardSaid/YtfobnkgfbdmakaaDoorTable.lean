/- The walk of isa.Valid: what its table holds. -/
import Derived.Test.YtfobnkgfbdmakaaDoorIsa
import Derived.Handy
set_option linter.unusedSimpArgs false
namespace Go.Proofs.YtfobnkgfbdmakaaDoor
open Go.RowKit Bk

/-- What the table of the instruction set holds: the numbers of operands. -/
def TableAt (w : World) : Prop := ∀ k, k < 35 → w.cell? ⟨0, 2 * k + 1, none⟩ = some (.int .i64 (arity k))

theorem TableAt.lt {w : World} (h : TableAt w) : 0 < w.heap.size := by
  rcases Nat.lt_or_ge 0 w.heap.size with hlt | hge
  · exact hlt
  · have h1 := h 0 (by decide)
    simp [World.cell?, Array.getElem?_eq_none hge] at h1

theorem TableAt.below {w w' : World} {B : Nat} (h : TableAt w) (hb : Below B w w') (hB : 0 < B) : TableAt w' :=
  fun k hk => (hb.cell (p := ⟨0, 2 * k + 1, none⟩) hB).trans (h k hk)
theorem TableAt.next {w w' : World} (h : TableAt w) (hb : Below w.heap.size w w') : TableAt w' := h.below hb h.lt

end Go.Proofs.YtfobnkgfbdmakaaDoor
