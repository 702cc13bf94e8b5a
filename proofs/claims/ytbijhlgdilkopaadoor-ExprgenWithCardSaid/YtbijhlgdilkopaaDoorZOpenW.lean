/- A case as an argument, with its registers as a slice, and a byte. Printed by gen_openw.py. -/
import Derived.Test.YtbijhlgdilkopaaDoorZOpenE
set_option linter.unusedVariables false
set_option linter.unusedSimpArgs false
set_option maxRecDepth 100000
namespace Go.Proofs.YtbijhlgdilkopaaDoor
open Go.RowKit Go.ChangeShapes Go.WideShapes Bk
section
variable {H : Type} {enc : TypeId × Value → H} {w : World} {base : Nat} {spare : Nat → Bool} {held : Bool}
theorem open_caseW {r : Reach} {b0 : Nat} {v : Value} {d : DataW H} {ps : List MemPlace} (hv : Value.okWide Tryd.prog w r b0 29 v) (h : DataW.Trod enc Tryd.prog w base spare held 29 v d ps) (hsz : ∀ n ∈ d.weights Tryd.prog 29, n ≤ reachBytes) :
    ∃ (dd : Nat) (x : Nd) (V : Option Addr) (nv cv : Nat) (vs : List Vr) (C : Option Addr) (nc cc : Nat) (cs : List (List Int)) (fp sb : Int) (G : Option Addr) (ng cg : Nat) (regs : List Int) (E : Option Addr) (ne ce : Nat) (scr : List Int),
      v = .agg #[.int .u8 x.k, .int .i64 x.num, .string x.nm, .slice x.A x.n x.cap, .slice V nv cv, .slice C nc cc, .int .i64 fp, .int .i64 sb, .slice G ng cg, .slice E ne ce] ∧ CaseAt w w.heap.size dd x V nv vs C nc cs G ng regs E ne ce scr ∧ Sl w (· < w.heap.size) 1 (.slice G ng cg) ng (intCells regs) ∧ ng ≤ 17592186043904 := by
  obtain ⟨cs, rfl, _⟩ := okWide_struct Tryd.underlying29 hv
  obtain ⟨fuel, hn⟩ := h
  obtain ⟨ys, n, _, hd, hcl, hl, hf⟩ := DataW.trod_struct Tryd.underlying29 hn
  obtain ⟨cs⟩ := cs
  have hcl' : cs.length = 10 := by rw [← cells_case]; exact hcl
  match cs, hcl' with
  | [c0, c1, c2, c3, c4, c5, c6, c7, c8, c9], _ =>
    have g : ∀ (i : Nat), i < 7 → ∃ y, ys[i]? = some y := fun i hi => ⟨_, List.getElem?_eq_getElem (by rw [hl]; exact hi)⟩
    obtain ⟨y0, e0⟩ := g 0 (by decide)
    obtain ⟨y1, e1⟩ := g 1 (by decide)
    obtain ⟨y2, e2⟩ := g 2 (by decide)
    obtain ⟨y3, e3⟩ := g 3 (by decide)
    obtain ⟨y4, e4⟩ := g 4 (by decide)
    obtain ⟨y5, e5⟩ := g 5 (by decide)
    obtain ⟨y6, e6⟩ := g 6 (by decide)
    obtain ⟨x, hx, hkv⟩ := trod_node n [c0, c1, c2, c3] y0 (by have := hf 0 _ rfl; rw [e0] at this; simpa [cells_node, Value.cells] using this)
    obtain ⟨V, nv, cv, vs, hV, hvn, hvs⟩ := trod_vds (c := c4) (x := y1) (by have := hf 1 _ rfl; rw [e1] at this; simpa [cells_vds, Value.cells] using this)
    obtain ⟨ss, sv, s1, s2, s3, _⟩ := trod_intss (c := c5) (x := y2) (by have := hf 2 _ rfl; rw [e2] at this; simpa [cells_intss, Value.cells] using this)
    obtain ⟨fp, _, h6⟩ := trod_i (by have := hf 3 _ rfl; rw [e3] at this; simpa [cells_int, Value.cells] using this)
    obtain ⟨sb, _, h7⟩ := trod_i (by have := hf 4 _ rfl; rw [e4] at this; simpa [cells_int, Value.cells] using this)
    obtain ⟨rg, i1, i2, i3⟩ := trod_ints (c := c8) (by have := hf 5 _ rfl; rw [e5] at this; simpa [cells_ints, Value.cells] using this)
    obtain ⟨scr, o1, o2, _⟩ := trod_ints (c := c9) (by have := hf 6 _ rfl; rw [e6] at this; simpa [cells_ints, Value.cells] using this)
    obtain ⟨C, cc, rfl, _, _, hrC⟩ := s2
    obtain ⟨G, cg, rfl, hle2, hne2, hrG⟩ := i2
    obtain ⟨E, ce, rfl, hle, hne, hrE⟩ := o2
    simp only [Nd.cells, List.cons.injEq, and_true] at hx h6 h7
    obtain ⟨rfl, rfl, rfl, rfl⟩ := hx
    subst h6; subst h7; subst hV
    refine ⟨n, x, V, nv, cv, vs, C, ss.length, cc, ss, fp, sb, G, rg.length, cg, rg, E, scr.length, ce, scr, rfl, ⟨hkv, hvs, hvn, ?_, rfl, s1, ints_at hrG (fun _ h => h) rfl, rfl, i1, ⟨E, ce, rfl, hle, hne, hrE⟩, rfl, o1⟩, ⟨G, cg, rfl, hle2, hne2, hrG⟩, ?_⟩
    · intro i c hc
      have hi : i < ss.length := (List.getElem?_eq_some_iff.1 hc).1
      obtain ⟨u, hu, A', cap', rfl, q1, q2, q3⟩ := s3.2 i hi
      have eg : ss.getD i [] = c := by rw [List.getD_eq_getElem?_getD, hc]; rfl
      rw [eg] at q1 q3 hu
      obtain ⟨g, o, e, hg, hcl⟩ := hrC.2 (by omega)
      exact ⟨g, o, A', cap', e, hg, hcl _ _ hu, q1, q2, ints_at q3 (fun _ h => h) rfl⟩
    · rcases i3 with h0 | ⟨ds, sp, hx, hlen⟩
      · omega
      · have hpart : (ys.map (·.1))[5]? = some (.slice ds sp) := by rw [List.getElem?_map, e5]; simp [hx]
        have hw1 : (ds.length + sp.length) * Tryd.prog.bytesOf 3 ∈ (DataW.slice ds sp).weights Tryd.prog 27 := by
          simp [DataW.weights, Tryd.underlying27]
        have hd1 : d = .agg (ys.map (·.1)) := congrArg Prod.fst hd
        have hw2 := hsz _ (by rw [hd1]; simp only [DataW.weights, Tryd.underlying29]; exact DataW.weights_mem_each (j := 5) rfl hpart _ hw1)
        rw [bytes_int] at hw2
        unfold reachBytes at hw2
        omega
theorem open_u8N {r : Reach} {b0 : Nat} {v : Value} {d : DataW H} {ps : List MemPlace} (hv : Value.okWide Tryd.prog w r b0 5 v) (h : DataW.Trod enc Tryd.prog w base spare held 5 v d ps) : ∃ n : Nat, v = .int .u8 (n : Int) ∧ n ≤ 255 := by obtain ⟨n, rfl, _, _, hw⟩ := open_int Tryd.underlying5 hv h; have := wf8 hw; exact ⟨n.toNat, by rw [Int.toNat_of_nonneg this.1], by omega⟩
end
end Go.Proofs.YtbijhlgdilkopaaDoor
