/- Openers with what a nil slice is; code and a byte as arguments. -/
import Derived.Test.YtfobnkgfbdmakaaDoorOpen
set_option linter.unusedVariables false
namespace Go.Proofs.YtfobnkgfbdmakaaDoor
open Go.RowKit Go.ChangeShapes Go.WideShapes Bk

section
variable {H : Type} {enc : TypeId × Value → H} {w : World} {base : Nat} {spare : Nat → Bool} {held : Bool}

theorem trod_codeN {fuel : Nat} {c : Value} {x : DataW H × List MemPlace} (h : DataW.trod enc Tryd.prog w base spare held fuel 28 [c] = some x) :
    ∃ (A : Option Addr) (n cap : Nat) (code : Prg), c = .slice A n cap ∧ CodeWf code ∧ Rd w (· < w.heap.size) 5 A n (codeCells code) ∧ (A = none → n = 0 ∧ cap = 0) := by
  obtain ⟨A, n, cap, code, rfl, h1, h2⟩ := trod_code h
  refine ⟨A, n, cap, code, rfl, h1, h2, fun hA => ?_⟩
  rcases DataW.trod_slice Tryd.underlying28 h with ⟨hc, _⟩ | ⟨a, len, cap', elems, rest, m, _, hc, _⟩
  · simp at hc; exact ⟨hc.2.1, hc.2.2⟩
  · simp [hA] at hc
theorem open_imgN {r : Reach} {b0 : Nat} {v : Value} {d : DataW H} {ps : List MemPlace} (hv : Value.okWide Tryd.prog w r b0 30 v) (h : DataW.Trod enc Tryd.prog w base spare held 30 v d ps) :
    ∃ (A : Option Addr) (n cap : Nat) (im : Img), v = .agg #[.slice A n cap, .int .i64 im.mem, .int .i64 im.stacks] ∧ CodeWf im.code ∧ Rd w (· < w.heap.size) 5 A n (codeCells im.code) ∧ (A = none → n = 0 ∧ cap = 0) := by
  obtain ⟨cs, rfl, hsz⟩ := okWide_struct Tryd.underlying30 hv
  obtain ⟨fuel, hn⟩ := h
  obtain ⟨ys, n, _, _, hcl, hl, hf⟩ := DataW.trod_struct Tryd.underlying30 hn
  obtain ⟨cs⟩ := cs
  have hcl' : cs.length = 3 := by rw [← cells_img]; exact hcl
  match cs, hcl' with
  | [c0, c1, c2], _ =>
    have g : ∀ (i : Nat), i < 3 → ∃ y, ys[i]? = some y := fun i hi => ⟨_, List.getElem?_eq_getElem (by rw [hl]; exact hi)⟩
    obtain ⟨y0, e0⟩ := g 0 (by decide)
    obtain ⟨y1, e1⟩ := g 1 (by decide)
    obtain ⟨y2, e2⟩ := g 2 (by decide)
    obtain ⟨A, m, cap, code, rfl, hw, hR, hA⟩ := trod_codeN (c := c0) (by have := hf 0 _ rfl; rw [e0] at this; simpa [cells_code, Value.cells] using this)
    obtain ⟨n1, rfl, w1⟩ := trod_one (c := c1) Tryd.underlying3 (by simpa [cells_int, Value.cells] using hf 1 _ rfl) e1
    obtain ⟨n2, rfl, w2⟩ := trod_one (c := c2) Tryd.underlying3 (by simpa [cells_int, Value.cells] using hf 2 _ rfl) e2
    exact ⟨A, m, cap, ⟨code, n1, n2⟩, rfl, hw, hR, hA⟩
theorem open_code {r : Reach} {b0 : Nat} {v : Value} {d : DataW H} {ps : List MemPlace} (hv : Value.okWide Tryd.prog w r b0 28 v) (h : DataW.Trod enc Tryd.prog w base spare held 28 v d ps) :
    ∃ (A : Option Addr) (n cap : Nat) (code : Prg), v = .slice A n cap ∧ CodeWf code ∧ Rd w (· < w.heap.size) 5 A n (codeCells code) ∧ (A = none → n = 0 ∧ cap = 0) := by
  obtain ⟨a, len, cap, rfl⟩ := okWide_slice Tryd.underlying28 hv
  obtain ⟨fuel, hn⟩ := h
  exact trod_codeN (c := .slice a len cap) (by simpa [Value.cells] using hn)
theorem open_u8 {r : Reach} {b0 : Nat} {v : Value} {d : DataW H} {ps : List MemPlace} (hv : Value.okWide Tryd.prog w r b0 5 v) (h : DataW.Trod enc Tryd.prog w base spare held 5 v d ps) :
    ∃ n : Int, v = .int .u8 n ∧ 0 ≤ n ∧ n ≤ 255 := by
  obtain ⟨n, rfl, _, _, hw⟩ := open_int Tryd.underlying5 hv h
  exact ⟨n, rfl, (wf8 hw).1, (wf8 hw).2⟩
end
end Go.Proofs.YtfobnkgfbdmakaaDoor
