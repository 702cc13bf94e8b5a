/- Several texts in one: Up M0. -/
import Derived.Test.YteenmpjjaheggaaDoorCpX
import Derived.Test.YteenmpjjaheggaaDoorMh
set_option linter.unusedVariables false
set_option linter.unusedSimpArgs false
/- Lists and machines of a world, in a world that has grown. -/
set_option linter.unusedVariables false
namespace Go.Proofs.YteenmpjjaheggaaDoor
open Go.RowKit Bk
theorem MLs.up {w w' : World} {M : Mach} {vm vs vc vi vo : Value} {sv : List Value} (h : MLs w (· < w.heap.size) M vm vs vc vi vo sv) (hb : Below w.heap.size w w') : MLs w' (· < w'.heap.size) M vm vs vc vi vo sv :=
  h.keep (fun b o hd => hb.cell (p := ⟨b, o, none⟩) hd) (fun k hk => Nat.lt_of_lt_of_le hk hb.size) fun _ h => h
theorem Rd.upL {w w' : World} {A : Option Addr} {n sz : Nat} {xs : List Value} (h : Rd w (· < w.heap.size) sz A n xs) (hb : Below w.heap.size w w') : Rd w' (· < w'.heap.size) sz A n xs :=
  (h.keep (fun b o hd => hb.cell (p := ⟨b, o, none⟩) hd)).mono (fun k hk => Nat.lt_of_lt_of_le hk hb.size)
end Go.Proofs.YteenmpjjaheggaaDoor

/- A machine that is set to the start of its code by three stores. -/
set_option maxRecDepth 100000
set_option linter.unusedVariables false
set_option linter.unusedSimpArgs false
namespace Go.Proofs.YteenmpjjaheggaaDoor
open Go.RowKit Bk
variable {w : World} {D : Nat → Prop} {P : Pl} {M : Mach} {vm vs vc vi vo : Value} {sv : List Value}
/-- The machine of the law: at the code's start, forward, no activations. -/
def m0 (M : Mach) : Mach := { M with pc := 0, dir := 1, calls := [] }
theorem _root_.Bk.MLs.m0 (h : MLs w D M vm vs vc vi vo sv) : MLs w D (m0 M) vm vs (.slice none 0 0) vi vo sv :=
  ⟨h.rl, h.m, h.s, ⟨h.l.1, Sl.nil, h.l.2.2.1, h.l.2.2.2⟩, h.d⟩
theorem _root_.Bk.MWf.m0 {M : Mach} (h : MWf M) : MWf (m0 M) := ⟨h.rl, h.rr, h.mr, h.sr, h.ir, h.or_⟩
/-- Stores ahead of the law's machine. -/
theorem m0_blk {w : World} {g : Nat} {t : TypeId} {M : Mach} {vm vs vc vi vo : Value} (h : Blk w g t (mcells M vm vs vc vi vo).toArray) (hr : M.r.length = 16) :
    Blk (((w.setCell ⟨g, 0, none⟩ (.int .i64 0)).setCell ⟨g, 1, none⟩ (.int .i64 1)).setCell ⟨g, 20, none⟩ (.slice none 0 0)) g t (mcells (m0 M) vm vs (.slice none 0 0) vi vo).toArray := by
  have h1 : Blk (w.setCell ⟨g, 0, none⟩ (.int .i64 0)) g t (mcells { M with pc := 0 } vm vs vc vi vo).toArray := by
    have := h.set_ 0 (.int .i64 0); simpa [mcells] using this
  have h2 : Blk ((w.setCell ⟨g, 0, none⟩ (.int .i64 0)).setCell ⟨g, 1, none⟩ (.int .i64 1)) g t (mcells { M with pc := 0, dir := 1 } vm vs vc vi vo).toArray := by
    have := h1.set_ 1 (.int .i64 1); simpa [mcells] using this
  have h3 := h2.mset hr 2 (.slice none 0 0)
  exact h3
end Go.Proofs.YteenmpjjaheggaaDoor
