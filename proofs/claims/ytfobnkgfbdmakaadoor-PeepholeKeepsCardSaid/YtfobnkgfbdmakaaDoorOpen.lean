/- What the arguments read as: instructions, code, images; a reading carried on to a world that has grown; the law's last step. -/
import Derived.Test.YtfobnkgfbdmakaaDoorPartner
import Derived.Test.YtfobnkgfbdmakaaDoorRows
import Derived.Below
import Derived.ChangeSame
import Derived.ChangeArms
import Derived.OpenShut
import Derived.WideKeyArgs
import Derived.ProofKit
import Derived.Lib.LaidTab
set_option linter.unusedVariables false
namespace Go.Proofs.YtfobnkgfbdmakaaDoor
open Go.RowKit Go.ChangeShapes Go.WideShapes Bk

theorem laidOut : laidOutB Tryd.prog = true := by kernel_rfl

section
variable {H : Type} {enc : TypeId × Value → H} {w : World} {base : Nat} {spare : Nat → Bool} {held : Bool}

theorem trod_one {fuel : Nat} {k : IntKind} {t : TypeId} {c : Value} {y : Option (DataW H × List MemPlace)} {y' : DataW H × List MemPlace} (ht : Tryd.prog.underlying t = some (.int k)) (h : DataW.trod enc Tryd.prog w base spare held fuel t [c] = y) (hy : y = some y') : ∃ n, c = .int k n ∧ (Lit.int k n).wf = true := by
  rw [hy] at h
  obtain ⟨n, hc, _, hw⟩ := DataW.trod_int ht h
  exact ⟨n, by simpa using hc, hw⟩

theorem wf64 {n : Int} (h : (Lit.int .i64 n).wf = true) : -9223372036854775808 ≤ n ∧ n ≤ 9223372036854775807 := by
  simp [Lit.wf, IntKind.min, IntKind.max, IntKind.signed, IntKind.bits] at h; omega
theorem wf8 {n : Int} (h : (Lit.int .u8 n).wf = true) : 0 ≤ n ∧ n ≤ 255 := by
  simp [Lit.wf, IntKind.min, IntKind.max, IntKind.signed, IntKind.bits] at h; omega

theorem cells_ins : Tryd.prog.cellsOf 23 = 5 := by kernel_rfl
theorem cells_int : Tryd.prog.cellsOf 3 = 1 := by kernel_rfl
theorem cells_u8 : Tryd.prog.cellsOf 5 = 1 := by kernel_rfl

/-- An instruction that can be read. -/
theorem trod_ins {fuel : Nat} {cs : List Value} {x : DataW H × List MemPlace} (h : DataW.trod enc Tryd.prog w base spare held fuel 23 cs = some x) : ∃ i : Ins, i.Wf ∧ cs = insCells i := by
  obtain ⟨ys, n, _, _, hcl, hl, hf⟩ := DataW.trod_struct Tryd.underlying23 h
  rw [cells_ins] at hcl
  match cs, hcl with
  | [c0, c1, c2, c3, c4], _ =>
    have g : ∀ (i : Nat), i < 5 → ∃ y, ys[i]? = some y := fun i hi => ⟨_, List.getElem?_eq_getElem (by rw [hl]; exact hi)⟩
    obtain ⟨y0, e0⟩ := g 0 (by decide)
    obtain ⟨y1, e1⟩ := g 1 (by decide)
    obtain ⟨y2, e2⟩ := g 2 (by decide)
    obtain ⟨y3, e3⟩ := g 3 (by decide)
    obtain ⟨y4, e4⟩ := g 4 (by decide)
    obtain ⟨n0, rfl, w0⟩ := trod_one (c := c0) Tryd.underlying5 (by simpa [cells_u8] using hf 0 _ rfl) e0
    obtain ⟨n1, rfl, w1⟩ := trod_one (c := c1) Tryd.underlying3 (by simpa [cells_int] using hf 1 _ rfl) e1
    obtain ⟨n2, rfl, w2⟩ := trod_one (c := c2) Tryd.underlying3 (by simpa [cells_int] using hf 2 _ rfl) e2
    obtain ⟨n3, rfl, w3⟩ := trod_one (c := c3) Tryd.underlying3 (by simpa [cells_int] using hf 3 _ rfl) e3
    obtain ⟨n4, rfl, w4⟩ := trod_one (c := c4) Tryd.underlying3 (by simpa [cells_int] using hf 4 _ rfl) e4
    have b0 := wf8 w0; have b1 := wf64 w1; have b2 := wf64 w2; have b3 := wf64 w3; have b4 := wf64 w4
    exact ⟨⟨n0, n1, n2, n3, n4⟩, ⟨b0.1, b0.2, b1.1, b1.2, b2.1, b2.2, b3.1, b3.2, b4.1, b4.2⟩, rfl⟩

theorem open_ins {r : Reach} {b0 : Nat} {v : Value} {d : DataW H} {ps : List MemPlace} (hv : Value.okWide Tryd.prog w r b0 23 v) (h : DataW.Trod enc Tryd.prog w base spare held 23 v d ps) :
    ∃ i : Ins, i.Wf ∧ v = .agg #[.int .u8 i.op, .int .i64 i.a, .int .i64 i.b, .int .i64 i.c, .int .i64 i.d] := by
  obtain ⟨cs, rfl, hsz⟩ := okWide_struct Tryd.underlying23 hv
  obtain ⟨n, hn⟩ := h
  obtain ⟨i, hi, he⟩ := trod_ins hn
  refine ⟨i, hi, ?_⟩
  have : cs.toList = insCells i := he
  obtain ⟨l⟩ := cs
  simp only at this
  subst this
  rfl

theorem choose_list {P : Nat → Ins → Prop} : ∀ n, (∀ i, i < n → ∃ x, P i x) → ∃ l : List Ins, l.length = n ∧ ∀ i, i < n → P i (l.getD i default)
  | 0, _ => ⟨[], rfl, fun i hi => by omega⟩
  | n + 1, h => by
    obtain ⟨l, hl, hp⟩ := choose_list n fun i hi => h i (by omega)
    obtain ⟨x, hx⟩ := h n (by omega)
    refine ⟨l ++ [x], by simp [hl], fun i hi => ?_⟩
    rcases Nat.lt_or_ge i n with hlt | hge
    · have : (l ++ [x]).getD i default = l.getD i default := by
        rw [List.getD_eq_getElem?_getD, List.getD_eq_getElem?_getD, List.getElem?_append_left (by omega)]
      rw [this]; exact hp i hlt
    · obtain rfl : i = n := by omega
      have : (l ++ [x]).getD i default = x := by
        rw [List.getD_eq_getElem?_getD, List.getElem?_append_right (by omega)]; simp [hl]
      rw [this]; exact hx

theorem addr_add {a : Addr} (h : a.spot = none) (j : Nat) : a.add j = ⟨a.block, a.off + j, none⟩ := by
  obtain ⟨b, o, s⟩ := a
  simp only at h
  subst h
  unfold Addr.add
  split
  · rename_i h0; subst h0; rfl
  · rfl

/-- Code that can be read. -/
theorem trod_code {fuel : Nat} {c : Value} {x : DataW H × List MemPlace} (h : DataW.trod enc Tryd.prog w base spare held fuel 28 [c] = some x) :
    ∃ (A : Option Addr) (n cap : Nat) (code : Prg), c = .slice A n cap ∧ CodeWf code ∧ Rd w (· < w.heap.size) 5 A n (codeCells code) := by
  rcases DataW.trod_slice Tryd.underlying28 h with ⟨hc, _⟩ | ⟨a, len, cap, elems, rest, n, _, hc, _, _, _, _, hlen, hel, _⟩
  · exact ⟨none, 0, 0, [], by simpa using hc, fun k hk => by simp at hk, Rd.none_ _⟩
  · have one : ∀ i, i < len → ∃ x : Ins, x.Wf ∧ ∀ j, j < 5 → w.cell? (a.add (i * 5 + j)) = (insCells x)[j]? := by
      intro i hi
      have h1 := hel i hi
      rw [List.getElem?_eq_getElem (by omega), cells_ins] at h1
      obtain ⟨cs', hc', ht⟩ := Option.bind_eq_some_iff.1 h1
      obtain ⟨x, hx, rfl⟩ := trod_ins ht
      obtain ⟨_, _, hat⟩ := World.cells?_some hc'
      refine ⟨x, hx, fun j hj => ?_⟩
      rw [← hat j hj]
      congr 1
      unfold Addr.add
      split <;> split <;> (try split) <;> simp_all <;> omega
    obtain ⟨code, hl, hp⟩ := choose_list len one
    refine ⟨some a, len, cap, code, by simpa using hc, fun k hk => (hp k (by omega)).1, by rw [codeCells_length, hl], fun hn => ?_⟩
    have h0 := (hp 0 hn).2 0 (by decide)
    have hsp : a.spot = none := by
      cases hs : a.spot with
      | none => rfl
      | some s => simp [Addr.add, World.cell?, hs, insCells] at h0; split at h0 <;> simp at h0
    have hblk : a.block < w.heap.size := by
      rcases Nat.lt_or_ge a.block w.heap.size with hlt | hge
      · exact hlt
      · simp [Addr.add, World.cell?, Array.getElem?_eq_none hge, insCells] at h0
    refine ⟨a.block, a.off, by rw [← hsp], hblk, fun j u hu => ?_⟩
    have hj : j < len * 5 := by
      rcases Nat.lt_or_ge j (codeCells code).length with hlt | hge
      · rw [codeCells_length] at hlt; omega
      · rw [List.getElem?_eq_none hge] at hu; cases hu
    have e : j = j / 5 * 5 + j % 5 := by omega
    rw [e, codeCells_get code (j / 5) (j % 5) (by omega) (by omega), ← (hp (j / 5) (by omega)).2 (j % 5) (by omega), ← e] at hu
    rw [← hu, addr_add hsp]

/-- An image that can be read. -/
theorem cells_code : Tryd.prog.cellsOf 28 = 1 := by kernel_rfl
theorem cells_img : Tryd.prog.cellsOf 30 = 3 := by kernel_rfl
theorem open_img {r : Reach} {b0 : Nat} {v : Value} {d : DataW H} {ps : List MemPlace} (hv : Value.okWide Tryd.prog w r b0 30 v) (h : DataW.Trod enc Tryd.prog w base spare held 30 v d ps) :
    ∃ (A : Option Addr) (n cap : Nat) (im : Img), v = .agg #[.slice A n cap, .int .i64 im.mem, .int .i64 im.stacks] ∧ CodeWf im.code ∧ Rd w (· < w.heap.size) 5 A n (codeCells im.code) ∧ (-9223372036854775808 ≤ im.mem ∧ im.mem ≤ 9223372036854775807) ∧ (-9223372036854775808 ≤ im.stacks ∧ im.stacks ≤ 9223372036854775807) := by
  obtain ⟨cs, rfl, hsz⟩ := okWide_struct Tryd.underlying30 hv
  obtain ⟨fuel, hn⟩ := h
  obtain ⟨ys, n, _, _, hcl, hl, hf⟩ := DataW.trod_struct Tryd.underlying30 hn
  obtain ⟨cs⟩ := cs
  have hcl' : cs.length = 3 := by rw [← cells_img]; exact hcl
  match cs, hcl' with
  | [c0, c1, c2], _ =>
    have g : ∀ (i : Nat), i < 3 → ∃ y, ys[i]? = some y := fun i hi => ⟨_, List.getElem?_eq_getElem (by rw [hl]; exact hi)⟩
    obtain ⟨y0, e0⟩ := g 0 (by decide)
    obtain ⟨y1, e1⟩ := g 1 (by decide)
    obtain ⟨y2, e2⟩ := g 2 (by decide)
    obtain ⟨A, m, cap, code, rfl, hw, hR⟩ := trod_code (c := c0) (by have := hf 0 _ rfl; rw [e0] at this; simpa [cells_code, Value.cells] using this)
    obtain ⟨n1, rfl, w1⟩ := trod_one (c := c1) Tryd.underlying3 (by simpa [cells_int, Value.cells] using hf 1 _ rfl) e1
    obtain ⟨n2, rfl, w2⟩ := trod_one (c := c2) Tryd.underlying3 (by simpa [cells_int, Value.cells] using hf 2 _ rfl) e2
    exact ⟨A, m, cap, ⟨code, n1, n2⟩, rfl, hw, hR, wf64 w1, wf64 w2⟩

/-- A reading carried on to a world that has grown. -/
theorem trodAll_next {W W' : World} (hb : Below W.heap.size W W') {sp : Nat → Bool} : ∀ {ts : List TypeId} {vs : List Value} {ds : List (DataW H)} {ps : List MemPlace}, (∀ t ∈ ts, Tryd.prog.readableRec t = true ∧ t < Tryd.prog.types.size) →
    DataW.TrodAll enc Tryd.prog W 0 (fun _ => true) true ts vs ds ps → (∀ p ∈ ps, p.block < W.heap.size) → (∀ p ∈ ps, sp p.block = true) → DataW.TrodAll enc Tryd.prog W' 0 sp true ts vs ds ps
  | [], vs, ds, ps, _, h, _, _ => by obtain ⟨rfl, rfl, rfl⟩ := trodAll_nil h; exact trodAll_mk0
  | t :: ts, vs, ds, ps, ht, h, hlt, hs => by
    obtain ⟨v, vs', d, ds', p, q, rfl, rfl, rfl, h0, hr⟩ := trodAll_cons h
    refine trodAll_cons_mk (WideElems.Trod_stays laidOut (ht t (by simp)).1 (ht t (by simp)).2 h0 (fun x hx => hb.same (hlt x (by simp [hx]))) (fun x hx => hs x (by simp [hx]))) ?_
    exact trodAll_next hb (fun t h => ht t (by simp [h])) hr (fun x hx => hlt x (by simp [hx])) (fun x hx => hs x (by simp [hx]))

/-- The last step of every law's row: it has returned true; what was there is as it was. -/
theorem law_post {f : Func} {s : ChangeSpec} {apart fresh handsOn again : Bool} {W W' : World} {args : Array Value} {ds gs : List (DataW H)} {before p : List MemPlace}
    (hW : DataW.Whole enc Tryd.prog f.params.toList s.vars apart W args.toList ds gs before) (hA : DataW.TrodAll enc Tryd.prog W 0 (fun _ => true) true f.params.toList args.toList ds p)
    (ht : ∀ t ∈ f.params.toList, Tryd.prog.readableRec t = true ∧ t < Tryd.prog.types.size) (hv : s.vars = []) (hg : gs = []) (hp : before = p)
    (hs : s.fn H (ds ++ gs) = { results := [.lit (.bool true)], args := ds }) (hr : f.resultTypes = #[4]) (hb : Below W.heap.size W W') :
    s.post enc Tryd.prog f apart fresh handsOn again W args (.bool true) W' := by
  subst hg; subst hp
  have hlt : ∀ p ∈ before, p.block < W.heap.size := fun p hp => hW.lt p hp
  have hold : ∀ p ∈ before, (fun b => decide (b < W.heap.size)) p.block = true := fun p hp => by simpa using hlt p hp
  have hres : ∀ (b : Nat) (sp : Nat → Bool) (hd : Bool), DataW.TrodAll enc Tryd.prog W' b sp hd f.resultTypes.toList ((Value.bool true).resultList f.resultTypes.size) (s.fn H (ds ++ [])).results [] := by
    intro b sp hd
    rw [hr, hs]
    exact trodAll_cons_mk (shut_bool Tryd.underlying4 _) trodAll_mk0
  have hargs : ∀ sp : Nat → Bool, (∀ p ∈ before, sp p.block = true) → DataW.TrodAll enc Tryd.prog W' 0 sp true f.params.toList args.toList (s.fn H (ds ++ [])).args before := fun sp h => by
    rw [hs]; exact trodAll_next hb ht hA hlt h
  have hvars : ∀ sp : Nat → Bool, DataW.TrodVars enc Tryd.prog W' sp s.vars (s.fn H (ds ++ [])).vars [] := fun sp => by rw [hs, hv]; rfl
  refine ⟨ds, [], before, [], before, [], hW, hres _ _ _, hargs _ hold, hvars _, World.keptBut_mono (fun p hp => ⟨hp, Or.inr (Or.inl hp)⟩) (hb.frame (· ∈ before)), fun _ => ?_⟩
  obtain ⟨_, _, _, _, _, hz, hn⟩ := hW
  refine ⟨?_, _, _, ([] ++ before) ++ [], ⟨[] ++ before, [], trodAll_append (hargs _ (fun _ _ => rfl)) (hres _ _ _), hvars _, rfl, ?_, ?_⟩, ?_⟩
  · exact ok_one hr rfl (okWide_bool_mk Tryd.underlying4 _)
  · intro b off hp
    have hin : MemPlace.cell b off ∈ before := by simpa using hp
    rw [hb.frozen (hlt _ hin)]
    exact hz b off hin
  · intro ha
    have := hn ha
    simpa using this
  · intro p hp _
    simpa using hp
end
end Go.Proofs.YtfobnkgfbdmakaaDoor
