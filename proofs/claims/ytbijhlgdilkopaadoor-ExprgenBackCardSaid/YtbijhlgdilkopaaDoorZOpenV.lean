/- A number of sixteen bits as an argument. -/
import Derived.Test.YtbijhlgdilkopaaDoorZOpenE
set_option linter.unusedVariables false
set_option linter.unusedSimpArgs false
set_option maxRecDepth 100000
namespace Go.Proofs.YtbijhlgdilkopaaDoor
open Go.RowKit Go.ChangeShapes Go.WideShapes Bk
theorem wf16 {n : Int} (h : (Lit.int .u16 n).wf = true) : 0 ≤ n ∧ n ≤ 65535 := by
  simp [Lit.wf, IntKind.min, IntKind.max, IntKind.signed, IntKind.bits] at h; omega
section
variable {H : Type} {enc : TypeId × Value → H} {w : World} {base : Nat} {spare : Nat → Bool} {held : Bool}
theorem open_u16 {r : Reach} {b0 : Nat} {v : Value} {d : DataW H} {ps : List MemPlace} (hv : Value.okWide Tryd.prog w r b0 59 v) (h : DataW.Trod enc Tryd.prog w base spare held 59 v d ps) :
    ∃ n : Nat, v = .int .u16 (n : Int) ∧ n ≤ 65535 := by
  obtain ⟨n, rfl, _, _, hw⟩ := open_int Tryd.underlying59 hv h
  have := wf16 hw
  exact ⟨n.toNat, by rw [Int.toNat_of_nonneg this.1], by omega⟩
end
end Go.Proofs.YtbijhlgdilkopaaDoor
