/- A list of bytes as an argument. -/
import Derived.Test.YtfpcblgkcbfdoaaDoorZOpenI
set_option linter.unusedVariables false
set_option linter.unusedSimpArgs false
set_option maxRecDepth 100000
namespace Bk
open Go
def u8Cells (l : List Nat) : List Value := l.map fun (x : Nat) => .int .u8 (x : Int)
theorem u8Cells_length (l : List Nat) : (u8Cells l).length = l.length := by simp [u8Cells]
theorem u8Cells_get (l : List Nat) (k : Nat) (h : k < l.length) : (u8Cells l)[k]? = some (.int .u8 ((l.getD k 0 : Nat) : Int)) := by
  simp [u8Cells, List.getD_eq_getElem?_getD, h]
end Bk
namespace Go.Proofs.YtfpcblgkcbfdoaaDoor
open Go.RowKit Go.ChangeShapes Go.WideShapes Bk
section
variable {H : Type} {enc : TypeId × Value → H} {w : World} {base : Nat} {spare : Nat → Bool} {held : Bool}
theorem flat_u8s (l : List Nat) : (l.flatMap fun (x : Nat) => [Value.int .u8 (x : Int)]) = u8Cells l := by
  unfold u8Cells
  induction l with
  | nil => rfl
  | cons a l ih => rw [List.flatMap_cons, ih]; rfl
theorem trod_u8 {fuel : Nat} {cs : List Value} {x : DataW H × List MemPlace} (h : DataW.trod enc Tryd.prog w base spare held fuel 5 cs = some x) : ∃ n : Nat, n ≤ 255 ∧ cs = [.int .u8 (n : Int)] := by
  obtain ⟨n, hc, _, hw⟩ := DataW.trod_int Tryd.underlying5 h
  have := wf8 hw
  obtain ⟨k, rfl⟩ := Int.eq_ofNat_of_zero_le this.1
  exact ⟨k, by omega, hc⟩
theorem open_u8s {r : Reach} {b0 : Nat} {v : Value} {d : DataW H} {ps : List MemPlace} (hv : Value.okWide Tryd.prog w r b0 57 v) (h : DataW.Trod enc Tryd.prog w base spare held 57 v d ps) :
    ∃ l : List Nat, (∀ y ∈ l, y ≤ 255) ∧ Sl w (· < w.heap.size) 1 v l.length (u8Cells l) := by
  obtain ⟨a, len, cap, rfl⟩ := okWide_slice Tryd.underlying57 hv
  obtain ⟨fuel, hn⟩ := h
  obtain ⟨A, n, cap', l, e, rfl, h1, h2, h3, h4⟩ := trod_slG (Q := fun y _ => y ≤ 255) Tryd.underlying57 cells_u8 Nat.one_pos (0 : Nat) (fun x => [.int .u8 (x : Int)]) (fun _ => rfl) (fun _ _ _ h => let ⟨b, hb, hc⟩ := trod_u8 h; ⟨b, hb, hc⟩) (c := .slice a len cap) (by simpa [Value.cells] using hn)
  rw [flat_u8s] at h3
  refine ⟨l, fun y hy => ?_, A, cap', e, h1, h2, h3⟩
  obtain ⟨i, hi, rfl⟩ := List.mem_iff_getElem.1 hy
  rcases h4 with h4 | ⟨ds, sp, _, _, h5⟩
  · omega
  · obtain ⟨_, _, hq⟩ := h5 i hi
    rwa [List.getD_eq_getElem?_getD, List.getElem?_eq_getElem hi] at hq
end
end Go.Proofs.YtfpcblgkcbfdoaaDoor
