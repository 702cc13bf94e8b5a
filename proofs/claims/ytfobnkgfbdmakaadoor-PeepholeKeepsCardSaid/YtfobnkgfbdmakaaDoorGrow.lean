/- A region that draws its order, whose operations read what was there and whose callees only add memory: one walk of the text's order serves. -/
import Derived.Test.YtfobnkgfbdmakaaDoorBase
set_option linter.unusedVariables false
namespace Bk
open Go Go.RowKit

/-- A world that has grown out of w: whatever w held is as it was. -/
structure Grw (w : World) where
  out : World
  below : Below w.heap.size w out
def grow (w : World) (z : Grw w) : World := z.out
theorem grow_below (w : World) (z : Grw w) : Below w.heap.size w (grow w z) := z.below
theorem cell_grow {W w : World} (hW : W = w) {b o : Nat} {v : Value} (hb : b < w.heap.size) (hc : w.cell? ⟨b, o, none⟩ = some v) : ∀ z, (grow W z).cell? ⟨b, o, none⟩ = some v :=
  fun z => by subst hW; exact (z.below.cell (p := ⟨b, o, none⟩) hb).trans hc

section
variable {P : Program} {f : FuncId} {args : Array Value} {w : World} {z : Grw w} {v : Value}
theorem quiet_grow (h : Calls P f args (grow w z) fun e w' => e = .returned v ∧ Below (grow w z).heap.size (grow w z) w') : Calls P f args (grow w z) fun e w'' => e = .returned v ∧ ∃ z' : Grw w, w'' = grow w z' :=
  h.mono fun _ w' ⟨he, hb⟩ => ⟨he, ⟨w', z.below.next hb⟩, rfl⟩
theorem quiet_grow_same (h : Calls P f args (grow w z) fun e w' => e = .returned v ∧ grow w z = w') : Calls P f args (grow w z) fun e w'' => e = .returned v ∧ ∃ z' : Grw w, w'' = grow w z' :=
  h.mono fun _ w' ⟨he, hb⟩ => ⟨he, z, hb.symm⟩
end

theorem wp_region_grow {P : Program} {id : Nat} {Q : Exit → Act → World → Prop} {a : Act} {w : World} {l : List Oper} (hm : P.follows .mixedOrders = true) (hB : Region.lexB .any l.toArray = true)
    (h : ∀ W, W = w → wpQuiet P l.toArray (fun w' => ∃ z : Grw W, w' = grow W z) (fun a' => ∀ w', (∃ z : Grw W, w' = grow W z) → Q .normal a' w') l a) : (Code.region id l.toArray true).wp P Q a w :=
  wp_region_quiet (C := fun w' => ∃ z : Grw w, w' = grow w z) hm hB ⟨⟨{ w with drawn := w.drawn + 1 }, (Below.refl _ _).drew⟩, rfl⟩ (by simpa using h w rfl)
end Bk
