/- The table of the instruction set: what the row lists; a world for the witness. -/
import Derived.Test.YteenmpjjaheggaaDoorOpX
import Derived.Test.YteenmpjjaheggaaDoorCards
import Derived.Test.YteenmpjjaheggaaDoorTie
import Derived.Deep.DeepHandedRow
set_option linter.unusedVariables false
set_option linter.unusedSimpArgs false
set_option maxRecDepth 100000
set_option maxHeartbeats 8000000
set_option maxRecDepth 100000
namespace Go.Proofs.YteenmpjjaheggaaDoor
open Go.RowKit Go.ChangeShapes Go.WideShapes Go.ChangeAt Bk

theorem own_knob : ownKnob Tryd.prog.godebug = none := by kernel_rfl
theorem gTab : Tryd.prog.globalNamed "backstep/isa.table" = some 0 := by kernel_rfl

theorem cells_op : Tryd.prog.cellsOf 109 = 2 := by kernel_rfl

theorem trod_num {H : Type} {enc : TypeId × Value → H} {w : World} {base : Nat} {spare : Nat → Bool} {held : Bool} {fuel : Nat} {cs : List Value} {s : List UInt8} {n : Int} {p : List MemPlace}
    (h : DataW.trod enc Tryd.prog w base spare held fuel 109 cs = some (.agg [.lit (.string s), .lit (.int .i64 n)], p)) : cs[1]? = some (.int .i64 n) := by
  obtain ⟨ys, m, _, hx, hcl, hl, hf⟩ := DataW.trod_struct Tryd.underlying109 h
  rw [cells_op] at hcl
  match cs, hcl with
  | [c0, c1], _ =>
    have e1 : ∃ y, ys[1]? = some y := ⟨_, List.getElem?_eq_getElem (by rw [hl]; decide)⟩
    obtain ⟨y1, e1⟩ := e1
    have h1 := hf 1 _ rfl
    rw [e1] at h1
    obtain ⟨n1, hc, hy, _⟩ := DataW.trod_int Tryd.underlying3 h1
    have hc1 : c1 = .int .i64 n1 := by simpa [cells_int] using hc
    have hd := (Prod.ext_iff.1 hx).1
    simp only at hd
    have hd2 : (ys.map (·.1))[1]? = some (DataW.lit (.int .i64 n)) := by
      have : (DataW.agg (H := H) (ys.map (·.1))) = .agg [.lit (.string s), .lit (.int .i64 n)] := hd.symm
      injection this with this
      rw [this]; rfl
    rw [List.getElem?_map, e1, hy] at hd2
    simp at hd2
    rw [hc1, hd2]; rfl

theorem table_of {W : World} (h : laidMetH Tryd.prog [("backstep/isa.table", Rows.laid_backstep_isa_table)] W) : TableAt W := by
  have h : laidMet Tryd.prog [("backstep/isa.table", Rows.laid_backstep_isa_table)] W := h
  obtain ⟨ps, ⟨g', t', cs, fuel, p, q, hg', ht', hvar, hd, _, _⟩, _⟩ := h
  obtain rfl := Option.some.inj (gTab.symm.trans hg')
  obtain rfl : 110 = t' := Option.some.inj ((show (Tryd.prog.globals[0]?).map (·.type) = some 110 by kernel_rfl).symm.trans ht')
  obtain ⟨xs, m, _, hx, hcl, hl, hf⟩ := DataW.trod_array Tryd.underlying110 hd
  intro k hk
  have hcell := World.var?_cell gTab hvar (2 * k + 1)
  rw [hcell]
  have h1 := hf k hk
  have hxk : (xs.map (·.1))[k]? = (match Rows.laid_backstep_isa_table (H := Unit) with | .agg l => l[k]? | _ => none) := by
    have := (Prod.ext_iff.1 hx).1
    simp only at this
    rw [this]
  have key : ∀ k, k < 35 → ∃ s, (match Rows.laid_backstep_isa_table (H := Unit) with | .agg l => l[k]? | _ => none) = some (.agg [.lit (.string s), .lit (.int .i64 (arity k))]) := by
    intro k hk
    match k, hk with
    | 0, _ => exact ⟨_, rfl⟩
    | 1, _ => exact ⟨_, rfl⟩
    | 2, _ => exact ⟨_, rfl⟩
    | 3, _ => exact ⟨_, rfl⟩
    | 4, _ => exact ⟨_, rfl⟩
    | 5, _ => exact ⟨_, rfl⟩
    | 6, _ => exact ⟨_, rfl⟩
    | 7, _ => exact ⟨_, rfl⟩
    | 8, _ => exact ⟨_, rfl⟩
    | 9, _ => exact ⟨_, rfl⟩
    | 10, _ => exact ⟨_, rfl⟩
    | 11, _ => exact ⟨_, rfl⟩
    | 12, _ => exact ⟨_, rfl⟩
    | 13, _ => exact ⟨_, rfl⟩
    | 14, _ => exact ⟨_, rfl⟩
    | 15, _ => exact ⟨_, rfl⟩
    | 16, _ => exact ⟨_, rfl⟩
    | 17, _ => exact ⟨_, rfl⟩
    | 18, _ => exact ⟨_, rfl⟩
    | 19, _ => exact ⟨_, rfl⟩
    | 20, _ => exact ⟨_, rfl⟩
    | 21, _ => exact ⟨_, rfl⟩
    | 22, _ => exact ⟨_, rfl⟩
    | 23, _ => exact ⟨_, rfl⟩
    | 24, _ => exact ⟨_, rfl⟩
    | 25, _ => exact ⟨_, rfl⟩
    | 26, _ => exact ⟨_, rfl⟩
    | 27, _ => exact ⟨_, rfl⟩
    | 28, _ => exact ⟨_, rfl⟩
    | 29, _ => exact ⟨_, rfl⟩
    | 30, _ => exact ⟨_, rfl⟩
    | 31, _ => exact ⟨_, rfl⟩
    | 32, _ => exact ⟨_, rfl⟩
    | 33, _ => exact ⟨_, rfl⟩
    | 34, _ => exact ⟨_, rfl⟩
    | k + 35, h => exact absurd h (by omega)
  obtain ⟨s, hs⟩ := key k hk
  rw [hs, List.getElem?_map] at hxk
  obtain ⟨y, hy, hy1⟩ := Option.map_eq_some_iff.1 hxk
  rw [hy, cells_op] at h1
  obtain ⟨d, p⟩ := y
  simp only at hy1
  subst hy1
  have := trod_num h1
  rw [List.getElem?_take, if_pos (by decide), List.getElem?_drop] at this
  rw [← Array.getElem?_toList, ← this]
  congr 1
  omega

/-- A world for the witness: the settled one, the table holding what its initialiser lays. -/
def tableCells : Array Value := #[.string ⟨#[110, 111, 112]⟩, .int .i64 0, .string ⟨#[97, 100, 100]⟩, .int .i64 2, .string ⟨#[115, 117, 98]⟩, .int .i64 2, .string ⟨#[120, 111, 114]⟩, .int .i64 2, .string ⟨#[97, 100, 100, 105]⟩, .int .i64 2, .string ⟨#[115, 117, 98, 105]⟩, .int .i64 2, .string ⟨#[120, 111, 114, 105]⟩, .int .i64 2, .string ⟨#[115, 119, 97, 112]⟩, .int .i64 2, .string ⟨#[110, 101, 103]⟩, .int .i64 1, .string ⟨#[99, 97, 108, 99]⟩, .int .i64 4, .string ⟨#[109, 101, 109]⟩, .int .i64 2, .string ⟨#[105, 100, 120]⟩, .int .i64 4, .string ⟨#[112, 117, 115, 104]⟩, .int .i64 2, .string ⟨#[112, 111, 112]⟩, .int .i64 2, .string ⟨#[116, 111, 112]⟩, .int .i64 2, .string ⟨#[115, 105, 122, 101]⟩, .int .i64 2, .string ⟨#[115, 119, 97, 112, 115]⟩, .int .i64 2, .string ⟨#[114, 101, 97, 100]⟩, .int .i64 1, .string ⟨#[117, 110, 114, 101, 97, 100]⟩, .int .i64 1, .string ⟨#[119, 114, 105, 116, 101]⟩, .int .i64 1, .string ⟨#[117, 110, 119, 114, 105, 116, 101]⟩, .int .i64 1, .string ⟨#[122, 101, 114, 111]⟩, .int .i64 2, .string ⟨#[106, 109, 112]⟩, .int .i64 1, .string ⟨#[106, 109, 112, 122]⟩, .int .i64 2, .string ⟨#[106, 109, 112, 110]⟩, .int .i64 2, .string ⟨#[108, 97, 110, 100]⟩, .int .i64 1, .string ⟨#[108, 97, 110, 100, 122]⟩, .int .i64 2, .string ⟨#[108, 97, 110, 100, 110]⟩, .int .i64 2, .string ⟨#[102, 114, 97, 109, 101]⟩, .int .i64 2, .string ⟨#[117, 110, 102, 114, 97, 109, 101]⟩, .int .i64 2, .string ⟨#[99, 97, 108, 108]⟩, .int .i64 1, .string ⟨#[117, 110, 99, 97, 108, 108]⟩, .int .i64 1, .string ⟨#[115, 116, 97, 114, 116]⟩, .int .i64 1, .string ⟨#[101, 110, 100]⟩, .int .i64 1, .string ⟨#[104, 97, 108, 116]⟩, .int .i64 0]
noncomputable def laidWorld (os : Os) : World :=
  { World.holding Tryd.prog os ⟨#[], #[], []⟩ with heap := (World.holding Tryd.prog os ⟨#[], #[], []⟩).heap.modify 0 fun
      | .cells _ t frozen => .cells tableCells t frozen
      | o => o }
end Go.Proofs.YteenmpjjaheggaaDoor
