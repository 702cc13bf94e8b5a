/- What a case that comes in reads as. -/
import Derived.Test.YtbijhlgdilkopaaGreatDoorOpX
import Derived.Test.YtbijhlgdilkopaaGreatDoorZEgUs
set_option linter.unusedVariables false
set_option linter.unusedSimpArgs false
set_option maxRecDepth 100000
namespace Bk
open Go Go.RowKit
theorem KV.le {w : World} {B : Nat} : ∀ {d d' : Nat} {x : Nd}, d ≤ d' → KV w B d x → KV w B d' x
  | 0, _, _, _, h => h.elim
  | d + 1, 0, _, hd, _ => by omega
  | d + 1, d' + 1, x, hd, h => by
    obtain ⟨h1, h2, h3, h4, h5, h6⟩ := h
    exact ⟨h1, h2, h3, h4, h5, fun i hi => let ⟨y, hy, hk⟩ := h6 i hi; ⟨y, hy, KV.le (by omega) hk⟩⟩
end Bk
namespace Go.Proofs.YtbijhlgdilkopaaGreatDoor
open Go.RowKit Go.ChangeShapes Go.WideShapes Bk
section
variable {H : Type} {enc : TypeId × Value → H} {w : World} {base : Nat} {spare : Nat → Bool} {held : Bool}
theorem cells_node : Tryz.prog.cellsOf 24 = 4 := by kernel_rfl
theorem cells_nodes : Tryz.prog.cellsOf 22 = 1 := by kernel_rfl
theorem cells_str : Tryz.prog.cellsOf 9 = 1 := by kernel_rfl
theorem cells_vd : Tryz.prog.cellsOf 45 = 3 := by kernel_rfl
theorem cells_vds : Tryz.prog.cellsOf 25 = 1 := by kernel_rfl
theorem cells_case : Tryz.prog.cellsOf 49 = 10 := by kernel_rfl
theorem trod_u {fuel : Nat} {cs : List Value} {x : DataW H × List MemPlace} (h : DataW.trod enc Tryz.prog w base spare held fuel 5 cs = some x) : ∃ n, (0 ≤ n ∧ n ≤ 255) ∧ cs = [.int .u8 n] := by
  obtain ⟨n, hc, _, hw⟩ := DataW.trod_int Tryz.underlying5 h
  exact ⟨n, wf8 hw, hc⟩
theorem trod_s {fuel : Nat} {cs : List Value} {x : DataW H × List MemPlace} (h : DataW.trod enc Tryz.prog w base spare held fuel 9 cs = some x) : ∃ s : ByteArray, cs = [.string s] := by
  obtain ⟨s, hc, _, _⟩ := DataW.trod_string Tryz.underlying9 h
  exact ⟨s, hc⟩
theorem trod_node : ∀ (fuel : Nat) (cs : List Value) (x : DataW H × List MemPlace), DataW.trod enc Tryz.prog w base spare held fuel 24 cs = some x → ∃ y : Nd, cs = y.cells ∧ KV w w.heap.size fuel y := by
  intro fuel
  induction fuel using Nat.strongRecOn with
  | ind fuel ih =>
    intro cs x h
    obtain ⟨ys, n, hn, _, hcl, hl, hf⟩ := DataW.trod_struct Tryz.underlying24 h
    rw [cells_node] at hcl
    match cs, hcl with
    | [c0, c1, c2, c3], _ =>
      have g : ∀ (i : Nat), i < 4 → ∃ y, ys[i]? = some y := fun i hi => ⟨_, List.getElem?_eq_getElem (by rw [hl]; exact hi)⟩
      obtain ⟨y0, e0⟩ := g 0 (by decide)
      obtain ⟨y1, e1⟩ := g 1 (by decide)
      obtain ⟨y2, e2⟩ := g 2 (by decide)
      obtain ⟨y3, e3⟩ := g 3 (by decide)
      obtain ⟨k, hk, h0⟩ := trod_u (by have := hf 0 _ rfl; rw [e0] at this; simpa [cells_u8] using this)
      obtain ⟨num, hnum, h1⟩ := trod_i (by have := hf 1 _ rfl; rw [e1] at this; simpa [cells_int] using this)
      obtain ⟨nm, h2⟩ := trod_s (by have := hf 2 _ rfl; rw [e2] at this; simpa [cells_str] using this)
      have h3 : DataW.trod enc Tryz.prog w base spare held n 22 [c3] = some y3 := by have := hf 3 _ rfl; rw [e3] at this; simpa [cells_nodes] using this
      simp only [List.cons.injEq, and_true] at h0 h1 h2
      subst h0; subst h1; subst h2
      rcases DataW.trod_slice Tryz.underlying22 h3 with ⟨hc, _⟩ | ⟨a, len, cap, elems, rest, m, hm, hc, _, _, hlc, hcm, hlen, hel, _⟩
      · simp only [List.cons.injEq, and_true] at hc
        subst hc
        refine ⟨⟨k, num, nm, none, 0, 0⟩, rfl, ?_⟩
        rw [hn]
        exact ⟨hk, hnum, Nat.le_refl _, by simp [maxLen], fun _ => rfl, fun i hi => absurd hi (Nat.not_lt_zero _)⟩
      · simp only [List.cons.injEq, and_true] at hc
        subst hc
        refine ⟨⟨k, num, nm, some a, len, cap⟩, rfl, ?_⟩
        rw [hn]
        have one : ∀ i, i < len → ∃ y : Nd, KV w w.heap.size m y ∧ ∀ j, j < 4 → w.cell? (a.add (i * 4 + j)) = y.cells[j]? := by
          intro i hi
          have h1 := hel i hi
          rw [List.getElem?_eq_getElem (by omega), cells_node] at h1
          obtain ⟨cs', hc', ht⟩ := Option.bind_eq_some_iff.1 h1
          obtain ⟨y, rfl, hky⟩ := ih m (by omega) _ _ ht
          obtain ⟨_, _, hat⟩ := World.cells?_some hc'
          refine ⟨y, hky, fun j hj => ?_⟩
          rw [← hat j hj]
          congr 1
          unfold Addr.add
          split <;> split <;> (try split) <;> simp_all <;> omega
        refine ⟨hk, hnum, hlc, hcm, (fun e => by cases e), fun i hi => ?_⟩
        have hi : i < len := hi
        obtain ⟨y9, _, h9⟩ := one 0 (by omega)
        have h00 : w.cell? (a.add (0 * 4 + 0)) = some (.int .u8 y9.k) := h9 0 (by decide)
        have hsp : a.spot = none := by
          cases hs : a.spot with
          | none => rfl
          | some s => simp [Addr.add, World.cell?, hs] at h00; split at h00 <;> simp at h00
        have hblk : a.block < w.heap.size := by
          rcases Nat.lt_or_ge a.block w.heap.size with hlt | hge
          · exact hlt
          · rw [addr_add hsp] at h00
            simp [World.cell?, Array.getElem?_eq_none hge] at h00
        obtain ⟨y, hky, hcell⟩ := one i hi
        refine ⟨y, ⟨a.block, a.off, by show some a = _; rw [← hsp], hblk, fun j v hv => ?_⟩, KV.le (by omega) hky⟩
        have hj : j < 4 := (List.getElem?_eq_some_iff.1 hv).1
        rw [← hv, ← hcell j hj, addr_add hsp, Nat.add_assoc]
theorem trod_vd {fuel : Nat} {cs : List Value} {x : DataW H × List MemPlace} (h : DataW.trod enc Tryz.prog w base spare held fuel 45 cs = some x) : ∃ v : Vr, cs = [.string v.nm, .int .u8 v.k, .int .i64 v.len] := by
  obtain ⟨ys, n, _, _, hcl, hl, hf⟩ := DataW.trod_struct Tryz.underlying45 h
  rw [cells_vd] at hcl
  match cs, hcl with
  | [c0, c1, c2], _ =>
    have g : ∀ (i : Nat), i < 3 → ∃ y, ys[i]? = some y := fun i hi => ⟨_, List.getElem?_eq_getElem (by rw [hl]; exact hi)⟩
    obtain ⟨y0, e0⟩ := g 0 (by decide)
    obtain ⟨y1, e1⟩ := g 1 (by decide)
    obtain ⟨y2, e2⟩ := g 2 (by decide)
    obtain ⟨nm, h0⟩ := trod_s (by have := hf 0 _ rfl; rw [e0] at this; simpa [cells_str] using this)
    obtain ⟨k, _, h1⟩ := trod_u (by have := hf 1 _ rfl; rw [e1] at this; simpa [cells_u8] using this)
    obtain ⟨len, _, h2⟩ := trod_i (by have := hf 2 _ rfl; rw [e2] at this; simpa [cells_int] using this)
    simp at h0 h1 h2
    exact ⟨⟨nm, k, len⟩, by rw [h0, h1, h2]⟩
theorem varCells_flat (l : List Vr) : (l.flatMap fun v : Vr => [Value.string v.nm, .int .u8 v.k, .int .i64 v.len]) = varCells l := rfl
theorem trod_vds {fuel : Nat} {c : Value} {x : DataW H × List MemPlace} (h : DataW.trod enc Tryz.prog w base spare held fuel 25 [c] = some x) : ∃ (A : Option Addr) (n cap : Nat) (l : List Vr), c = .slice A n cap ∧ l.length = n ∧ VsAt w w.heap.size A l := by
  obtain ⟨A, n, cap, l, rfl, hl, _, _, hr, _⟩ := trod_slG (Q := fun _ _ => True) Tryz.underlying25 cells_vd (by decide) (⟨⟨#[]⟩, 0, 0⟩ : Vr) (fun v => [.string v.nm, .int .u8 v.k, .int .i64 v.len]) (fun _ => rfl) (fun _ _ _ h => let ⟨a, ha⟩ := trod_vd h; ⟨a, trivial, ha⟩) h
  rw [varCells_flat] at hr
  refine ⟨A, n, cap, l, rfl, hl, fun i v hv => ?_⟩
  obtain ⟨g, o, e, hg, hc⟩ := hr.2 (by have := (List.getElem?_eq_some_iff.1 hv).1; omega)
  obtain ⟨t0, t1, t2⟩ := varCells_get l i v hv
  exact ⟨g, o, e, hg, hc _ _ t0, hc _ _ t1, hc _ _ t2⟩
theorem ints_at {D : Nat → Prop} {A : Option Addr} {n : Nat} {l : List Int} (hr : Rd w D 1 A n (intCells l)) (hD : ∀ k, D k → k < w.heap.size) (hn : l.length = n) : IntsAt w w.heap.size A l := by
  intro i hi
  obtain ⟨g, o, e, hg, hc⟩ := hr.2 (by omega)
  exact ⟨g, o, e, hD g hg, hc i _ (by rw [intCells, List.getElem?_map, List.getElem?_eq_getElem hi]; rfl)⟩
theorem open_case {r : Reach} {b0 : Nat} {v : Value} {d : DataW H} {ps : List MemPlace} (hv : Value.okWide Tryz.prog w r b0 49 v) (h : DataW.Trod enc Tryz.prog w base spare held 49 v d ps) :
    ∃ (dd : Nat) (x : Nd) (V : Option Addr) (nv cv : Nat) (vs : List Vr) (C : Option Addr) (nc cc : Nat) (cs : List (List Int)) (fp sb : Int) (G : Option Addr) (ng cg : Nat) (regs : List Int) (E : Option Addr) (ne ce : Nat) (scr : List Int),
      v = .agg #[.int .u8 x.k, .int .i64 x.num, .string x.nm, .slice x.A x.n x.cap, .slice V nv cv, .slice C nc cc, .int .i64 fp, .int .i64 sb, .slice G ng cg, .slice E ne ce] ∧ CaseAt w w.heap.size dd x V nv vs C nc cs G ng regs E ne ce scr := by
  obtain ⟨cs, rfl, _⟩ := okWide_struct Tryz.underlying49 hv
  obtain ⟨fuel, hn⟩ := h
  obtain ⟨ys, n, _, hd, hcl, hl, hf⟩ := DataW.trod_struct Tryz.underlying49 hn
  obtain ⟨cs⟩ := cs
  have hcl' : cs.length = 10 := by rw [← cells_case]; exact hcl
  match cs, hcl' with
  | [c0, c1, c2, c3, c4, c5, c6, c7, c8, c9], _ =>
    have g : ∀ (i : Nat), i < 7 → ∃ y, ys[i]? = some y := fun i hi => ⟨_, List.getElem?_eq_getElem (by rw [hl]; exact hi)⟩
    obtain ⟨y0, e0⟩ := g 0 (by decide)
    obtain ⟨y1, e1⟩ := g 1 (by decide)
    obtain ⟨y2, e2⟩ := g 2 (by decide)
    obtain ⟨y3, e3⟩ := g 3 (by decide)
    obtain ⟨y4, e4⟩ := g 4 (by decide)
    obtain ⟨y5, e5⟩ := g 5 (by decide)
    obtain ⟨y6, e6⟩ := g 6 (by decide)
    obtain ⟨x, hx, hkv⟩ := trod_node n [c0, c1, c2, c3] y0 (by have := hf 0 _ rfl; rw [e0] at this; simpa [cells_node, Value.cells] using this)
    obtain ⟨V, nv, cv, vs, hV, hvn, hvs⟩ := trod_vds (c := c4) (x := y1) (by have := hf 1 _ rfl; rw [e1] at this; simpa [cells_vds, Value.cells] using this)
    obtain ⟨ss, sv, s1, s2, s3, _⟩ := trod_intss (c := c5) (x := y2) (by have := hf 2 _ rfl; rw [e2] at this; simpa [cells_intss, Value.cells] using this)
    obtain ⟨fp, _, h6⟩ := trod_i (by have := hf 3 _ rfl; rw [e3] at this; simpa [cells_int, Value.cells] using this)
    obtain ⟨sb, _, h7⟩ := trod_i (by have := hf 4 _ rfl; rw [e4] at this; simpa [cells_int, Value.cells] using this)
    obtain ⟨rg, i1, i2, _⟩ := trod_ints (c := c8) (by have := hf 5 _ rfl; rw [e5] at this; simpa [cells_ints, Value.cells] using this)
    obtain ⟨scr, o1, o2, _⟩ := trod_ints (c := c9) (by have := hf 6 _ rfl; rw [e6] at this; simpa [cells_ints, Value.cells] using this)
    obtain ⟨C, cc, rfl, _, _, hrC⟩ := s2
    obtain ⟨G, cg, rfl, _, _, hrG⟩ := i2
    obtain ⟨E, ce, rfl, hle, hne, hrE⟩ := o2
    simp only [Nd.cells, List.cons.injEq, and_true] at hx h6 h7
    obtain ⟨rfl, rfl, rfl, rfl⟩ := hx
    subst h6; subst h7; subst hV
    refine ⟨n, x, V, nv, cv, vs, C, ss.length, cc, ss, fp, sb, G, rg.length, cg, rg, E, scr.length, ce, scr, rfl, hkv, hvs, hvn, ?_, rfl, s1, ints_at hrG (fun _ h => h) rfl, rfl, i1, ⟨E, ce, rfl, hle, hne, hrE⟩, rfl, o1⟩
    intro i c hc
    have hi : i < ss.length := (List.getElem?_eq_some_iff.1 hc).1
    obtain ⟨u, hu, A', cap', rfl, q1, q2, q3⟩ := s3.2 i hi
    have eg : ss.getD i [] = c := by rw [List.getD_eq_getElem?_getD, hc]; rfl
    rw [eg] at q1 q3 hu
    obtain ⟨g, o, e, hg, hcl⟩ := hrC.2 (by omega)
    exact ⟨g, o, A', cap', e, hg, hcl _ _ hu, q1, q2, ints_at q3 (fun _ h => h) rfl⟩
theorem trod_codeN {fuel : Nat} {c : Value} {x : DataW H × List MemPlace} (h : DataW.trod enc Tryz.prog w base spare held fuel 35 [c] = some x) :
    ∃ (A : Option Addr) (n cap : Nat) (code : Prg), c = .slice A n cap ∧ CodeWf code ∧ Rd w (· < w.heap.size) 5 A n (codeCells code) ∧ (A = none → n = 0 ∧ cap = 0) := by
  obtain ⟨A, n, cap, code, rfl, h1, h2⟩ := trod_code h
  refine ⟨A, n, cap, code, rfl, h1, h2, fun hA => ?_⟩
  rcases DataW.trod_slice Tryz.underlying35 h with ⟨hc, _⟩ | ⟨a, len, cap', elems, rest, m, _, hc, _⟩
  · simp at hc; exact ⟨hc.2.1, hc.2.2⟩
  · simp [hA] at hc
theorem open_code {r : Reach} {b0 : Nat} {v : Value} {d : DataW H} {ps : List MemPlace} (hv : Value.okWide Tryz.prog w r b0 35 v) (h : DataW.Trod enc Tryz.prog w base spare held 35 v d ps) :
    ∃ (A : Option Addr) (n cap : Nat) (code : Prg), v = .slice A n cap ∧ CodeWf code ∧ Rd w (· < w.heap.size) 5 A n (codeCells code) ∧ (A = none → n = 0 ∧ cap = 0) := by
  obtain ⟨a, len, cap, rfl⟩ := okWide_slice Tryz.underlying35 hv
  obtain ⟨fuel, hn⟩ := h
  exact trod_codeN (c := .slice a len cap) (by simpa [Value.cells] using hn)
end
end Go.Proofs.YtbijhlgdilkopaaGreatDoor
