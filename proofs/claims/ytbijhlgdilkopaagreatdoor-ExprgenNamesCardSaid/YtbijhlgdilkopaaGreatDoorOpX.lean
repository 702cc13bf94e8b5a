/- Several texts in one: Open OpenM Laid. -/
import Derived.Test.YtbijhlgdilkopaaGreatDoorZPartner
import Derived.Test.YtbijhlgdilkopaaGreatDoorRows
import Derived.Below
import Derived.ChangeSame
import Derived.ChangeArms
import Derived.OpenShut
import Derived.WideKeyArgs
import Derived.ProofKit
import Derived.Lib.LaidTab
import Derived.Test.YtbijhlgdilkopaaGreatDoorCpX
import Derived.Test.YtbijhlgdilkopaaGreatDoorMh
import Derived.SizedLaws
import Derived.Test.YtbijhlgdilkopaaGreatDoorCards
import Derived.Test.YtbijhlgdilkopaaGreatDoorTie
import Derived.Deep.DeepHandedRow
set_option linter.unusedVariables false
set_option linter.unusedSimpArgs false
/- What the arguments read as: instructions, code, images; a reading carried on to a world that has grown; the law's last step. -/
set_option maxRecDepth 100000
set_option maxHeartbeats 8000000
set_option maxRecDepth 100000
set_option linter.unusedVariables false
namespace Go.Proofs.YtbijhlgdilkopaaGreatDoor
open Go.RowKit Go.ChangeShapes Go.WideShapes Bk

theorem laidOut : laidOutB Tryz.prog = true := by kernel_rfl

section
variable {H : Type} {enc : TypeId × Value → H} {w : World} {base : Nat} {spare : Nat → Bool} {held : Bool}

theorem trod_one {fuel : Nat} {k : IntKind} {t : TypeId} {c : Value} {y : Option (DataW H × List MemPlace)} {y' : DataW H × List MemPlace} (ht : Tryz.prog.underlying t = some (.int k)) (h : DataW.trod enc Tryz.prog w base spare held fuel t [c] = y) (hy : y = some y') : ∃ n, c = .int k n ∧ (Lit.int k n).wf = true := by
  rw [hy] at h
  obtain ⟨n, hc, _, hw⟩ := DataW.trod_int ht h
  exact ⟨n, by simpa using hc, hw⟩

theorem wf64 {n : Int} (h : (Lit.int .i64 n).wf = true) : -9223372036854775808 ≤ n ∧ n ≤ 9223372036854775807 := by
  simp [Lit.wf, IntKind.min, IntKind.max, IntKind.signed, IntKind.bits] at h; omega
theorem wf8 {n : Int} (h : (Lit.int .u8 n).wf = true) : 0 ≤ n ∧ n ≤ 255 := by
  simp [Lit.wf, IntKind.min, IntKind.max, IntKind.signed, IntKind.bits] at h; omega

theorem cells_ins : Tryz.prog.cellsOf 102 = 5 := by kernel_rfl
theorem cells_int : Tryz.prog.cellsOf 3 = 1 := by kernel_rfl
theorem cells_u8 : Tryz.prog.cellsOf 5 = 1 := by kernel_rfl

/-- An instruction that can be read. -/
theorem trod_ins {fuel : Nat} {cs : List Value} {x : DataW H × List MemPlace} (h : DataW.trod enc Tryz.prog w base spare held fuel 102 cs = some x) : ∃ i : Ins, i.Wf ∧ cs = insCells i := by
  obtain ⟨ys, n, _, _, hcl, hl, hf⟩ := DataW.trod_struct Tryz.underlying102 h
  rw [cells_ins] at hcl
  match cs, hcl with
  | [c0, c1, c2, c3, c4], _ =>
    have g : ∀ (i : Nat), i < 5 → ∃ y, ys[i]? = some y := fun i hi => ⟨_, List.getElem?_eq_getElem (by rw [hl]; exact hi)⟩
    obtain ⟨y0, e0⟩ := g 0 (by decide)
    obtain ⟨y1, e1⟩ := g 1 (by decide)
    obtain ⟨y2, e2⟩ := g 2 (by decide)
    obtain ⟨y3, e3⟩ := g 3 (by decide)
    obtain ⟨y4, e4⟩ := g 4 (by decide)
    obtain ⟨n0, rfl, w0⟩ := trod_one (c := c0) Tryz.underlying5 (by simpa [cells_u8] using hf 0 _ rfl) e0
    obtain ⟨n1, rfl, w1⟩ := trod_one (c := c1) Tryz.underlying3 (by simpa [cells_int] using hf 1 _ rfl) e1
    obtain ⟨n2, rfl, w2⟩ := trod_one (c := c2) Tryz.underlying3 (by simpa [cells_int] using hf 2 _ rfl) e2
    obtain ⟨n3, rfl, w3⟩ := trod_one (c := c3) Tryz.underlying3 (by simpa [cells_int] using hf 3 _ rfl) e3
    obtain ⟨n4, rfl, w4⟩ := trod_one (c := c4) Tryz.underlying3 (by simpa [cells_int] using hf 4 _ rfl) e4
    have b0 := wf8 w0; have b1 := wf64 w1; have b2 := wf64 w2; have b3 := wf64 w3; have b4 := wf64 w4
    exact ⟨⟨n0, n1, n2, n3, n4⟩, ⟨b0.1, b0.2, b1.1, b1.2, b2.1, b2.2, b3.1, b3.2, b4.1, b4.2⟩, rfl⟩

theorem open_ins {r : Reach} {b0 : Nat} {v : Value} {d : DataW H} {ps : List MemPlace} (hv : Value.okWide Tryz.prog w r b0 102 v) (h : DataW.Trod enc Tryz.prog w base spare held 102 v d ps) :
    ∃ i : Ins, i.Wf ∧ v = .agg #[.int .u8 i.op, .int .i64 i.a, .int .i64 i.b, .int .i64 i.c, .int .i64 i.d] := by
  obtain ⟨cs, rfl, hsz⟩ := okWide_struct Tryz.underlying102 hv
  obtain ⟨n, hn⟩ := h
  obtain ⟨i, hi, he⟩ := trod_ins hn
  refine ⟨i, hi, ?_⟩
  have : cs.toList = insCells i := he
  obtain ⟨l⟩ := cs
  simp only at this
  subst this
  rfl

theorem choose_list {P : Nat → Ins → Prop} : ∀ n, (∀ i, i < n → ∃ x, P i x) → ∃ l : List Ins, l.length = n ∧ ∀ i, i < n → P i (l.getD i default)
  | 0, _ => ⟨[], rfl, fun i hi => by omega⟩
  | n + 1, h => by
    obtain ⟨l, hl, hp⟩ := choose_list n fun i hi => h i (by omega)
    obtain ⟨x, hx⟩ := h n (by omega)
    refine ⟨l ++ [x], by simp [hl], fun i hi => ?_⟩
    rcases Nat.lt_or_ge i n with hlt | hge
    · have : (l ++ [x]).getD i default = l.getD i default := by
        rw [List.getD_eq_getElem?_getD, List.getD_eq_getElem?_getD, List.getElem?_append_left (by omega)]
      rw [this]; exact hp i hlt
    · obtain rfl : i = n := by omega
      have : (l ++ [x]).getD i default = x := by
        rw [List.getD_eq_getElem?_getD, List.getElem?_append_right (by omega)]; simp [hl]
      rw [this]; exact hx

theorem addr_add {a : Addr} (h : a.spot = none) (j : Nat) : a.add j = ⟨a.block, a.off + j, none⟩ := by
  obtain ⟨b, o, s⟩ := a
  simp only at h
  subst h
  unfold Addr.add
  split
  · rename_i h0; subst h0; rfl
  · rfl

/-- Code that can be read. -/
theorem trod_code {fuel : Nat} {c : Value} {x : DataW H × List MemPlace} (h : DataW.trod enc Tryz.prog w base spare held fuel 35 [c] = some x) :
    ∃ (A : Option Addr) (n cap : Nat) (code : Prg), c = .slice A n cap ∧ CodeWf code ∧ Rd w (· < w.heap.size) 5 A n (codeCells code) := by
  rcases DataW.trod_slice Tryz.underlying35 h with ⟨hc, _⟩ | ⟨a, len, cap, elems, rest, n, _, hc, _, _, _, _, hlen, hel, _⟩
  · exact ⟨none, 0, 0, [], by simpa using hc, fun k hk => by simp at hk, Rd.none_ _⟩
  · have one : ∀ i, i < len → ∃ x : Ins, x.Wf ∧ ∀ j, j < 5 → w.cell? (a.add (i * 5 + j)) = (insCells x)[j]? := by
      intro i hi
      have h1 := hel i hi
      rw [List.getElem?_eq_getElem (by omega), cells_ins] at h1
      obtain ⟨cs', hc', ht⟩ := Option.bind_eq_some_iff.1 h1
      obtain ⟨x, hx, rfl⟩ := trod_ins ht
      obtain ⟨_, _, hat⟩ := World.cells?_some hc'
      refine ⟨x, hx, fun j hj => ?_⟩
      rw [← hat j hj]
      congr 1
      unfold Addr.add
      split <;> split <;> (try split) <;> simp_all <;> omega
    obtain ⟨code, hl, hp⟩ := choose_list len one
    refine ⟨some a, len, cap, code, by simpa using hc, fun k hk => (hp k (by omega)).1, by rw [codeCells_length, hl], fun hn => ?_⟩
    have h0 := (hp 0 hn).2 0 (by decide)
    have hsp : a.spot = none := by
      cases hs : a.spot with
      | none => rfl
      | some s => simp [Addr.add, World.cell?, hs, insCells] at h0; split at h0 <;> simp at h0
    have hblk : a.block < w.heap.size := by
      rcases Nat.lt_or_ge a.block w.heap.size with hlt | hge
      · exact hlt
      · simp [Addr.add, World.cell?, Array.getElem?_eq_none hge, insCells] at h0
    refine ⟨a.block, a.off, by rw [← hsp], hblk, fun j u hu => ?_⟩
    have hj : j < len * 5 := by
      rcases Nat.lt_or_ge j (codeCells code).length with hlt | hge
      · rw [codeCells_length] at hlt; omega
      · rw [List.getElem?_eq_none hge] at hu; cases hu
    have e : j = j / 5 * 5 + j % 5 := by omega
    rw [e, codeCells_get code (j / 5) (j % 5) (by omega) (by omega), ← (hp (j / 5) (by omega)).2 (j % 5) (by omega), ← e] at hu
    rw [← hu, addr_add hsp]

/-- An image that can be read. -/
theorem cells_code : Tryz.prog.cellsOf 35 = 1 := by kernel_rfl
theorem cells_img : Tryz.prog.cellsOf 82 = 3 := by kernel_rfl
theorem open_img {r : Reach} {b0 : Nat} {v : Value} {d : DataW H} {ps : List MemPlace} (hv : Value.okWide Tryz.prog w r b0 82 v) (h : DataW.Trod enc Tryz.prog w base spare held 82 v d ps) :
    ∃ (A : Option Addr) (n cap : Nat) (im : Img), v = .agg #[.slice A n cap, .int .i64 im.mem, .int .i64 im.stacks] ∧ CodeWf im.code ∧ Rd w (· < w.heap.size) 5 A n (codeCells im.code) ∧ (-9223372036854775808 ≤ im.mem ∧ im.mem ≤ 9223372036854775807) ∧ (-9223372036854775808 ≤ im.stacks ∧ im.stacks ≤ 9223372036854775807) := by
  obtain ⟨cs, rfl, hsz⟩ := okWide_struct Tryz.underlying82 hv
  obtain ⟨fuel, hn⟩ := h
  obtain ⟨ys, n, _, _, hcl, hl, hf⟩ := DataW.trod_struct Tryz.underlying82 hn
  obtain ⟨cs⟩ := cs
  have hcl' : cs.length = 3 := by rw [← cells_img]; exact hcl
  match cs, hcl' with
  | [c0, c1, c2], _ =>
    have g : ∀ (i : Nat), i < 3 → ∃ y, ys[i]? = some y := fun i hi => ⟨_, List.getElem?_eq_getElem (by rw [hl]; exact hi)⟩
    obtain ⟨y0, e0⟩ := g 0 (by decide)
    obtain ⟨y1, e1⟩ := g 1 (by decide)
    obtain ⟨y2, e2⟩ := g 2 (by decide)
    obtain ⟨A, m, cap, code, rfl, hw, hR⟩ := trod_code (c := c0) (by have := hf 0 _ rfl; rw [e0] at this; simpa [cells_code, Value.cells] using this)
    obtain ⟨n1, rfl, w1⟩ := trod_one (c := c1) Tryz.underlying3 (by simpa [cells_int, Value.cells] using hf 1 _ rfl) e1
    obtain ⟨n2, rfl, w2⟩ := trod_one (c := c2) Tryz.underlying3 (by simpa [cells_int, Value.cells] using hf 2 _ rfl) e2
    exact ⟨A, m, cap, ⟨code, n1, n2⟩, rfl, hw, hR, wf64 w1, wf64 w2⟩

/-- A reading carried on to a world that has grown. -/
theorem trodAll_next {W W' : World} (hb : Below W.heap.size W W') {sp : Nat → Bool} : ∀ {ts : List TypeId} {vs : List Value} {ds : List (DataW H)} {ps : List MemPlace}, (∀ t ∈ ts, Tryz.prog.readableRec t = true ∧ t < Tryz.prog.types.size) →
    DataW.TrodAll enc Tryz.prog W 0 (fun _ => true) true ts vs ds ps → (∀ p ∈ ps, p.block < W.heap.size) → (∀ p ∈ ps, sp p.block = true) → DataW.TrodAll enc Tryz.prog W' 0 sp true ts vs ds ps
  | [], vs, ds, ps, _, h, _, _ => by obtain ⟨rfl, rfl, rfl⟩ := trodAll_nil h; exact trodAll_mk0
  | t :: ts, vs, ds, ps, ht, h, hlt, hs => by
    obtain ⟨v, vs', d, ds', p, q, rfl, rfl, rfl, h0, hr⟩ := trodAll_cons h
    refine trodAll_cons_mk (WideElems.Trod_stays laidOut (ht t (by simp)).1 (ht t (by simp)).2 h0 (fun x hx => hb.same (hlt x (by simp [hx]))) (fun x hx => hs x (by simp [hx]))) ?_
    exact trodAll_next hb (fun t h => ht t (by simp [h])) hr (fun x hx => hlt x (by simp [hx])) (fun x hx => hs x (by simp [hx]))

/-- The last step of every law's row: it has returned true; what was there is as it was. -/
theorem law_post {f : Func} {s : ChangeSpec} {apart fresh handsOn again : Bool} {W W' : World} {args : Array Value} {ds gs : List (DataW H)} {before p : List MemPlace}
    (hW : DataW.Whole enc Tryz.prog f.params.toList s.vars apart W args.toList ds gs before) (hA : DataW.TrodAll enc Tryz.prog W 0 (fun _ => true) true f.params.toList args.toList ds p)
    (ht : ∀ t ∈ f.params.toList, Tryz.prog.readableRec t = true ∧ t < Tryz.prog.types.size) (hv : s.vars = []) (hg : gs = []) (hp : before = p)
    (hs : s.fn H (ds ++ gs) = { results := [.lit (.bool true)], args := ds }) (hr : f.resultTypes = #[4]) (hb : Below W.heap.size W W') :
    s.post enc Tryz.prog f apart fresh handsOn again W args (.bool true) W' := by
  subst hg; subst hp
  have hlt : ∀ p ∈ before, p.block < W.heap.size := fun p hp => hW.lt p hp
  have hold : ∀ p ∈ before, (fun b => decide (b < W.heap.size)) p.block = true := fun p hp => by simpa using hlt p hp
  have hres : ∀ (b : Nat) (sp : Nat → Bool) (hd : Bool), DataW.TrodAll enc Tryz.prog W' b sp hd f.resultTypes.toList ((Value.bool true).resultList f.resultTypes.size) (s.fn H (ds ++ [])).results [] := by
    intro b sp hd
    rw [hr, hs]
    exact trodAll_cons_mk (shut_bool Tryz.underlying4 _) trodAll_mk0
  have hargs : ∀ sp : Nat → Bool, (∀ p ∈ before, sp p.block = true) → DataW.TrodAll enc Tryz.prog W' 0 sp true f.params.toList args.toList (s.fn H (ds ++ [])).args before := fun sp h => by
    rw [hs]; exact trodAll_next hb ht hA hlt h
  have hvars : ∀ sp : Nat → Bool, DataW.TrodVars enc Tryz.prog W' sp s.vars (s.fn H (ds ++ [])).vars [] := fun sp => by rw [hs, hv]; rfl
  refine ⟨ds, [], before, [], before, [], hW, hres _ _ _, hargs _ hold, hvars _, World.keptBut_mono (fun p hp => ⟨hp, Or.inr (Or.inl hp)⟩) (hb.frame (· ∈ before)), fun _ => ?_⟩
  obtain ⟨_, _, _, _, _, hz, hn⟩ := hW
  refine ⟨?_, _, _, ([] ++ before) ++ [], ⟨[] ++ before, [], trodAll_append (hargs _ (fun _ _ => rfl)) (hres _ _ _), hvars _, rfl, ?_, ?_⟩, ?_⟩
  · exact ok_one hr rfl (okWide_bool_mk Tryz.underlying4 _)
  · intro b off hp
    have hin : MemPlace.cell b off ∈ before := by simpa using hp
    rw [hb.frozen (hlt _ hin)]
    exact hz b off hin
  · intro ha
    have := hn ha
    simpa using this
  · intro p hp _
    simpa using hp
end
end Go.Proofs.YtbijhlgdilkopaaGreatDoor

/- What a machine that comes in reads as. -/
set_option maxRecDepth 100000
set_option maxHeartbeats 8000000
set_option maxRecDepth 100000
set_option linter.unusedVariables false
namespace Go.Proofs.YtbijhlgdilkopaaGreatDoor
open Go.RowKit Go.ChangeShapes Go.WideShapes Bk

theorem choose_gen {α : Type} (x0 : α) {P : Nat → α → Prop} : ∀ n, (∀ i, i < n → ∃ x, P i x) → ∃ l : List α, l.length = n ∧ ∀ i, i < n → P i (l.getD i x0)
  | 0, _ => ⟨[], rfl, fun i hi => by omega⟩
  | n + 1, h => by
    obtain ⟨l, hl, hp⟩ := choose_gen x0 n fun i hi => h i (by omega)
    obtain ⟨x, hx⟩ := h n (by omega)
    refine ⟨l ++ [x], by simp [hl], fun i hi => ?_⟩
    rcases Nat.lt_or_ge i n with hlt | hge
    · have : (l ++ [x]).getD i x0 = l.getD i x0 := by
        rw [List.getD_eq_getElem?_getD, List.getD_eq_getElem?_getD, List.getElem?_append_left (by omega)]
      rw [this]; exact hp i hlt
    · obtain rfl : i = n := by omega
      have : (l ++ [x]).getD i x0 = x := by
        rw [List.getD_eq_getElem?_getD, List.getElem?_append_right (by omega)]; simp [hl]
      rw [this]; exact hx
theorem flat_get {α : Type} (f : α → List Value) (sz : Nat) (hf : ∀ x, (f x).length = sz) (x0 : α) : ∀ (l : List α) (i j : Nat), i < l.length → j < sz → (l.flatMap f)[i * sz + j]? = (f (l.getD i x0))[j]?
  | a :: l, 0, j, _, hj => by simp [List.flatMap_cons, List.getElem?_append_left, hf, hj]
  | a :: l, i + 1, j, hi, hj => by
    rw [List.flatMap_cons, List.getElem?_append_right (by rw [hf]; simp [Nat.succ_mul]; omega), hf, show (i + 1) * sz + j - sz = i * sz + j by rw [Nat.succ_mul]; omega]
    rw [flat_get f sz hf x0 l i j (by simpa using hi) hj]
    rfl
  | [], i, j, hi, _ => by simp at hi
theorem flat_len {α : Type} (f : α → List Value) (sz : Nat) (hf : ∀ x, (f x).length = sz) : ∀ (l : List α), (l.flatMap f).length = l.length * sz
  | [] => by simp
  | a :: l => by rw [List.flatMap_cons, List.length_append, flat_len f sz hf l, hf, List.length_cons, Nat.succ_mul]; omega

section
variable {H : Type} {enc : TypeId × Value → H} {w : World} {base : Nat} {spare : Nat → Bool} {held : Bool}

/-- A slice that can be read. -/
theorem trod_slG {t e : TypeId} {sz : Nat} (ht : Tryz.prog.underlying t = some (.slice e)) (hce : Tryz.prog.cellsOf e = sz) (h0 : 0 < sz) {α : Type} (x0 : α) {Q : α → DataW H → Prop} (f : α → List Value) (hfl : ∀ x, (f x).length = sz)
    (hel : ∀ fuel cs x, DataW.trod enc Tryz.prog w base spare held fuel e cs = some x → ∃ y, Q y x.1 ∧ cs = f y) {fuel : Nat} {c : Value} {x : DataW H × List MemPlace} (h : DataW.trod enc Tryz.prog w base spare held fuel t [c] = some x) :
    ∃ (A : Option Addr) (n cap : Nat) (l : List α), c = .slice A n cap ∧ l.length = n ∧ n ≤ cap ∧ (A = none → cap = 0) ∧ Rd w (· < w.heap.size) sz A n (l.flatMap f) ∧
      (n = 0 ∨ ∃ ds sp, x.1 = .slice ds sp ∧ ds.length = n ∧ ∀ i, i < n → ∃ di, ds[i]? = some di ∧ Q (l.getD i x0) di) := by
  rcases DataW.trod_slice ht h with ⟨hc, _⟩ | ⟨a, len, cap, elems, rest, n, _, hc, hx, _, hlc, _, hlen, hel', _⟩
  · exact ⟨none, 0, 0, [], by simpa using hc, rfl, Nat.le_refl _, fun _ => rfl, Rd.none_ _, .inl rfl⟩
  · have one : ∀ i, i < len → ∃ y : α, (∃ di, (elems.map (·.1))[i]? = some di ∧ Q y di) ∧ ∀ j, j < sz → w.cell? (a.add (i * sz + j)) = (f y)[j]? := by
      intro i hi
      have h1 := hel' i hi
      have hei := List.getElem?_eq_getElem (l := elems) (i := i) (by omega)
      rw [hei, hce] at h1
      obtain ⟨cs', hc', hto⟩ := Option.bind_eq_some_iff.1 h1
      obtain ⟨y, hy, rfl⟩ := hel _ _ _ hto
      obtain ⟨_, _, hat⟩ := World.cells?_some hc'
      refine ⟨y, ⟨_, by rw [List.getElem?_map, hei]; rfl, hy⟩, fun j hj => ?_⟩
      rw [← hat j hj]
      congr 1
      unfold Addr.add
      split <;> split <;> (try split) <;> simp_all <;> omega
    obtain ⟨l, hl, hp⟩ := choose_gen x0 len one
    refine ⟨some a, len, cap, l, by simpa using hc, hl, hlc, (fun e => by cases e), ⟨by rw [flat_len f sz hfl, hl], fun hn => ?_⟩, .inr ⟨elems.map (·.1), rest.map (·.1), by rw [hx], by simpa using hlen, fun i hi => (hp i hi).1⟩⟩
    have h00 := (hp 0 hn).2 0 h0
    have hsome : ∃ u, (f (l.getD 0 x0))[0]? = some u := ⟨_, List.getElem?_eq_getElem (by rw [hfl]; exact h0)⟩
    obtain ⟨u0, hu0⟩ := hsome
    rw [hu0] at h00
    have hsp : a.spot = none := by
      cases hs : a.spot with
      | none => rfl
      | some s => simp [Addr.add, World.cell?, hs] at h00; split at h00 <;> simp at h00
    have hblk : a.block < w.heap.size := by
      rcases Nat.lt_or_ge a.block w.heap.size with hlt | hge
      · exact hlt
      · simp [Addr.add, World.cell?, Array.getElem?_eq_none hge] at h00
    refine ⟨a.block, a.off, by rw [← hsp], hblk, fun j u hu => ?_⟩
    have hj : j < len * sz := by
      rcases Nat.lt_or_ge j (l.flatMap f).length with hlt | hge
      · rw [flat_len f sz hfl, hl] at hlt; exact hlt
      · rw [List.getElem?_eq_none hge] at hu; cases hu
    have e : j = j / sz * sz + j % sz := by rw [Nat.mul_comm]; exact (Nat.div_add_mod j sz).symm
    have hd : j / sz < len := (Nat.div_lt_iff_lt_mul h0).2 hj
    have hm : j % sz < sz := Nat.mod_lt _ h0
    rw [e, flat_get f sz hfl x0 l (j / sz) (j % sz) (by omega) hm, ← (hp (j / sz) hd).2 (j % sz) hm, ← e] at hu
    rw [← hu, addr_add hsp]

theorem cells_ints : Tryz.prog.cellsOf 46 = 1 := by kernel_rfl
theorem cells_intss : Tryz.prog.cellsOf 47 = 1 := by kernel_rfl
theorem cells_acts : Tryz.prog.cellsOf 51 = 1 := by kernel_rfl
theorem cells_act : Tryz.prog.cellsOf 118 = 2 := by kernel_rfl
theorem cells_bool : Tryz.prog.cellsOf 4 = 1 := by kernel_rfl
theorem cells_regs : Tryz.prog.cellsOf 50 = 16 := by kernel_rfl
theorem cells_mach : Tryz.prog.cellsOf 53 = 25 := by kernel_rfl
theorem bytes_int : Tryz.prog.bytesOf 3 = 8 := by kernel_rfl
theorem i64_of {n : Int} (h : (Lit.int .i64 n).wf = true) : I64 n := by have := wf64 h; unfold I64; omega
theorem trod_i {fuel : Nat} {cs : List Value} {x : DataW H × List MemPlace} (h : DataW.trod enc Tryz.prog w base spare held fuel 3 cs = some x) : ∃ n, I64 n ∧ cs = [.int .i64 n] := by
  obtain ⟨n, hc, _, hw⟩ := DataW.trod_int Tryz.underlying3 h
  exact ⟨n, i64_of hw, hc⟩
theorem flat_ints (l : List Int) : (l.flatMap fun x => [Value.int .i64 x]) = intCells l := by
  unfold intCells
  induction l with
  | nil => rfl
  | cons a l ih => rw [List.flatMap_cons, ih]; rfl
theorem trod_ints {fuel : Nat} {c : Value} {x : DataW H × List MemPlace} (h : DataW.trod enc Tryz.prog w base spare held fuel 46 [c] = some x) :
    ∃ l : List Int, (∀ y ∈ l, I64 y) ∧ Sl w (· < w.heap.size) 1 c l.length (intCells l) ∧ (l.length = 0 ∨ ∃ ds sp, x.1 = .slice ds sp ∧ ds.length = l.length) := by
  obtain ⟨A, n, cap, l, rfl, rfl, h1, h2, h3, h4⟩ := trod_slG (Q := fun y _ => I64 y) Tryz.underlying46 cells_int Nat.one_pos (0 : Int) (fun x => [.int .i64 x]) (fun _ => rfl) (fun _ _ _ h => trod_i h) h
  rw [flat_ints] at h3
  refine ⟨l, fun y hy => ?_, ⟨A, cap, rfl, h1, h2, h3⟩, h4.imp id fun ⟨ds, sp, e1, e2, _⟩ => ⟨ds, sp, e1, e2⟩⟩
  obtain ⟨i, hi, rfl⟩ := List.mem_iff_getElem.1 hy
  rcases h4 with h4 | ⟨ds, sp, _, _, h5⟩
  · omega
  · obtain ⟨_, _, hq⟩ := h5 i hi
    rwa [List.getD_eq_getElem?_getD, List.getElem?_eq_getElem hi] at hq
theorem trod_b {fuel : Nat} {cs : List Value} {x : DataW H × List MemPlace} (h : DataW.trod enc Tryz.prog w base spare held fuel 4 cs = some x) : ∃ b, cs = [.bool b] := by
  cases fuel with
  | zero => simp [DataW.trod] at h
  | succ m =>
    unfold DataW.trod at h
    rw [Tryz.underlying4] at h
    match cs with
    | [.bool b] => exact ⟨b, rfl⟩
    | [] => simp at h
    | [.int _ _] => simp at h
    | [.float _ _] => simp at h
    | [.complex _ _ _] => simp at h
    | [.string _] => simp at h
    | [.pointer _] => simp at h
    | [.slice _ _ _] => simp at h
    | [.agg _] => simp at h
    | [.tuple _] => simp at h
    | [.func _ _ _] => simp at h
    | [_] => (revert h; split <;> simp_all)
    | _ :: _ :: _ => simp at h
theorem trod_act {fuel : Nat} {cs : List Value} {x : DataW H × List MemPlace} (h : DataW.trod enc Tryz.prog w base spare held fuel 118 cs = some x) : ∃ a : Int × Bool, cs = [.int .i64 a.1, .bool a.2] := by
  obtain ⟨ys, n, _, _, hcl, hl, hf⟩ := DataW.trod_struct Tryz.underlying118 h
  rw [cells_act] at hcl
  match cs, hcl with
  | [c0, c1], _ =>
    have g : ∀ (i : Nat), i < 2 → ∃ y, ys[i]? = some y := fun i hi => ⟨_, List.getElem?_eq_getElem (by rw [hl]; exact hi)⟩
    obtain ⟨y0, e0⟩ := g 0 (by decide)
    obtain ⟨y1, e1⟩ := g 1 (by decide)
    obtain ⟨n0, _, h0⟩ := trod_i (by have := hf 0 _ rfl; rw [e0] at this; simpa [cells_int] using this)
    obtain ⟨n1, h1⟩ := trod_b (by have := hf 1 _ rfl; rw [e1] at this; simpa [cells_bool] using this)
    simp at h0 h1
    exact ⟨(n0, n1), by rw [h0, h1]⟩
theorem trod_acts {fuel : Nat} {c : Value} {x : DataW H × List MemPlace} (h : DataW.trod enc Tryz.prog w base spare held fuel 51 [c] = some x) :
    ∃ l : List (Int × Bool), Sl w (· < w.heap.size) 2 c l.length (actCells l) ∧ (l.length = 0 ∨ ∃ ds sp, x.1 = .slice ds sp ∧ ds.length = l.length) := by
  obtain ⟨A, n, cap, l, rfl, rfl, h1, h2, h3, h4⟩ := trod_slG (Q := fun _ _ => True) Tryz.underlying51 cells_act (by decide) ((0, false) : Int × Bool) (fun a => [.int .i64 a.1, .bool a.2]) (fun _ => rfl) (fun _ _ _ h => let ⟨a, ha⟩ := trod_act h; ⟨a, trivial, ha⟩) h
  exact ⟨l, ⟨A, cap, rfl, h1, h2, h3⟩, h4.imp id fun ⟨ds, sp, e1, e2, _⟩ => ⟨ds, sp, e1, e2⟩⟩
theorem bytes_act : Tryz.prog.bytesOf 118 = 16 := by kernel_rfl
/-- A list of stacks that can be read. -/
theorem trod_intss {fuel : Nat} {c : Value} {x : DataW H × List MemPlace} (h : DataW.trod enc Tryz.prog w base spare held fuel 47 [c] = some x) :
    ∃ (ss : List (List Int)) (sv : List Value), (∀ l ∈ ss, ∀ y ∈ l, I64 y) ∧ Sl w (· < w.heap.size) 1 c ss.length sv ∧ SvRd w (· < w.heap.size) sv ss ∧ ∀ l ∈ ss, l.length = 0 ∨ ∃ ds sp d' sp', x.1 = .slice ds sp ∧ DataW.slice d' sp' ∈ ds ∧ d'.length = l.length := by
  obtain ⟨A, n, cap, l, rfl, rfl, h1, h2, h3, h4⟩ := trod_slG
    (Q := fun (y : Value × List Int) d => (∀ z ∈ y.2, I64 z) ∧ Sl w (· < w.heap.size) 1 y.1 y.2.length (intCells y.2) ∧ (y.2.length = 0 ∨ ∃ d' sp', d = DataW.slice d' sp' ∧ d'.length = y.2.length))
    Tryz.underlying47 cells_ints Nat.one_pos ((Value.slice none 0 0, []) : Value × List Int) (fun y => [y.1]) (fun _ => rfl)
    (fun fuel cs x hx => by
      have hl : cs.length = 1 := by
        rcases DataW.trod_slice Tryz.underlying46 hx with ⟨hc, _⟩ | ⟨_, _, _, _, _, _, _, hc, _⟩ <;> rw [hc] <;> rfl
      match cs, hl with
      | [c'], _ =>
        obtain ⟨l, k1, k2, k3⟩ := trod_ints hx
        exact ⟨(c', l), ⟨k1, k2, k3⟩, rfl⟩) h
  have key : ∀ i, i < l.length → (∀ z ∈ (l.getD i (Value.slice none 0 0, [])).2, I64 z) ∧ Sl w (· < w.heap.size) 1 (l.getD i (Value.slice none 0 0, [])).1 (l.getD i (Value.slice none 0 0, [])).2.length (intCells (l.getD i (Value.slice none 0 0, [])).2) ∧ ((l.getD i (Value.slice none 0 0, [])).2.length = 0 ∨ ∃ ds sp d' sp', x.1 = .slice ds sp ∧ DataW.slice d' sp' ∈ ds ∧ d'.length = (l.getD i (Value.slice none 0 0, [])).2.length) := by
    intro i hi
    rcases h4 with h4 | ⟨ds, sp, hx, _, h5⟩
    · omega
    · obtain ⟨di, hdi, q1, q2, q3⟩ := h5 i hi
      refine ⟨q1, q2, q3.imp id fun ⟨d', sp', e1, e2⟩ => ⟨ds, sp, d', sp', hx, ?_, e2⟩⟩
      rw [← e1]; exact List.mem_of_getElem? hdi
  have get : ∀ i (hi : i < l.length), l.getD i (Value.slice none 0 0, []) = l[i] := fun i hi => by rw [List.getD_eq_getElem?_getD, List.getElem?_eq_getElem hi]; rfl
  have hsv : (l.flatMap fun y => [y.1]) = l.map (·.1) := by
    generalize l = l'
    induction l' with
    | nil => rfl
    | cons a l ih => rw [List.flatMap_cons, ih]; rfl
  rw [hsv] at h3
  refine ⟨l.map (·.2), l.map (·.1), fun m hm => ?_, ⟨A, cap, by rw [List.length_map], by rw [List.length_map]; exact h1, h2, by rw [List.length_map]; exact h3⟩, ⟨by simp, fun k hk => ?_⟩, fun m hm => ?_⟩
  · obtain ⟨y, hy, rfl⟩ := List.mem_map.1 hm
    obtain ⟨i, hi, rfl⟩ := List.mem_iff_getElem.1 hy
    have := (key i hi).1; rwa [get i hi] at this
  · rw [List.length_map] at hk
    have hk' := (key k hk).2.1
    rw [get k hk] at hk'
    refine ⟨l[k].1, by rw [List.getElem?_map, List.getElem?_eq_getElem hk]; rfl, ?_⟩
    have e : (l.map (·.2)).getD k [] = l[k].2 := by rw [List.getD_eq_getElem?_getD, List.getElem?_map, List.getElem?_eq_getElem hk]; rfl
    rw [e]; exact hk'
  · obtain ⟨y, hy, rfl⟩ := List.mem_map.1 hm
    obtain ⟨i, hi, rfl⟩ := List.mem_iff_getElem.1 hy
    have := (key i hi).2.2; rwa [get i hi] at this
theorem weightsAll_mem {P : Program} {e : TypeId} : ∀ {elems : List (DataW H)} {d : DataW H}, d ∈ elems → ∀ n ∈ d.weights P e, n ∈ DataW.weightsAll P e elems
  | d0 :: r, d, hd, n, hn => by
    simp only [DataW.weightsAll, List.mem_append]
    rcases List.mem_cons.1 hd with rfl | h
    · exact Or.inl hn
    · exact Or.inr (weightsAll_mem h n hn)
  | [], _, hd, _, _ => by cases hd
/-- A machine that can be read. -/
theorem open_machC {r : Reach} {b0 : Nat} {v : Value} {d : DataW H} {ps : List MemPlace} (hv : Value.okWide Tryz.prog w r b0 53 v) (h : DataW.Trod enc Tryz.prog w base spare held 53 v d ps)
    (hsz : ∀ n ∈ d.weights Tryz.prog 53, n ≤ reachBytes) :
    ∃ (M : Mach) (vm vs vc vi vo : Value) (sv : List Value), v = .agg (mcells M vm vs vc vi vo).toArray ∧ MWf M ∧ MLs w (· < w.heap.size) M vm vs vc vi vo sv ∧ (∀ l ∈ M.s, l.length ≤ 17592186043904) ∧ M.calls.length ≤ 17592186043904 := by
  obtain ⟨cs, rfl, _⟩ := okWide_struct Tryz.underlying53 hv
  obtain ⟨fuel, hn⟩ := h
  obtain ⟨ys, n, _, hd, hcl, hl, hf⟩ := DataW.trod_struct Tryz.underlying53 hn
  obtain ⟨cs⟩ := cs
  have hcl' : cs.length = 25 := by rw [← cells_mach]; exact hcl
  match cs, hcl' with
  | [c0, c1, c2, c3, c4, c5, c6, c7, c8, c9, c10, c11, c12, c13, c14, c15, c16, c17, c18, c19, c20, c21, c22, c23, c24], _ =>
    have g : ∀ (i : Nat), i < 10 → ∃ y, ys[i]? = some y := fun i hi => ⟨_, List.getElem?_eq_getElem (by rw [hl]; exact hi)⟩
    obtain ⟨y0, e0⟩ := g 0 (by decide)
    obtain ⟨y1, e1⟩ := g 1 (by decide)
    obtain ⟨y2, e2⟩ := g 2 (by decide)
    obtain ⟨y3, e3⟩ := g 3 (by decide)
    obtain ⟨y4, e4⟩ := g 4 (by decide)
    obtain ⟨y5, e5⟩ := g 5 (by decide)
    obtain ⟨y6, e6⟩ := g 6 (by decide)
    obtain ⟨y7, e7⟩ := g 7 (by decide)
    obtain ⟨y8, e8⟩ := g 8 (by decide)
    obtain ⟨y9, e9⟩ := g 9 (by decide)
    obtain ⟨pc, _, h0⟩ := trod_i (by have := hf 0 _ rfl; rw [e0] at this; simpa [cells_int, Value.cells] using this)
    obtain ⟨dir, _, h1⟩ := trod_i (by have := hf 1 _ rfl; rw [e1] at this; simpa [cells_int, Value.cells] using this)
    obtain ⟨m, m1, m2, _⟩ := trod_ints (by have := hf 3 _ rfl; rw [e3] at this; simpa [cells_ints, Value.cells] using this)
    obtain ⟨ss, sv, s1, s2, s3, s4⟩ := trod_intss (x := y4) (by have := hf 4 _ rfl; rw [e4] at this; simpa [cells_intss, Value.cells] using this)
    obtain ⟨calls, k1, k2⟩ := trod_acts (x := y5) (by have := hf 5 _ rfl; rw [e5] at this; simpa [cells_acts, Value.cells] using this)
    obtain ⟨fp, _, h6⟩ := trod_i (by have := hf 6 _ rfl; rw [e6] at this; simpa [cells_int, Value.cells] using this)
    obtain ⟨sb, _, h7⟩ := trod_i (by have := hf 7 _ rfl; rw [e7] at this; simpa [cells_int, Value.cells] using this)
    obtain ⟨inp, i1, i2, _⟩ := trod_ints (by have := hf 8 _ rfl; rw [e8] at this; simpa [cells_ints, Value.cells] using this)
    obtain ⟨out, o1, o2, _⟩ := trod_ints (by have := hf 9 _ rfl; rw [e9] at this; simpa [cells_ints, Value.cells] using this)
    have hr := hf 2 _ rfl
    rw [e2] at hr
    obtain ⟨xs, mm, _, _, _, hxl, hxe⟩ := DataW.trod_array Tryz.underlying50 (cs := [c2, c3, c4, c5, c6, c7, c8, c9, c10, c11, c12, c13, c14, c15, c16, c17]) (by simpa [cells_regs, Value.cells] using hr)
    obtain ⟨rr, hrl, hrp⟩ := choose_gen (P := fun i (x : Int) => I64 x ∧ [c2, c3, c4, c5, c6, c7, c8, c9, c10, c11, c12, c13, c14, c15, c16, c17][i]? = some (.int .i64 x)) 0 16 (fun i hi => by
      have h1 := hxe i hi
      rw [List.getElem?_eq_getElem (l := xs) (by omega)] at h1
      obtain ⟨n, hn, hc⟩ := trod_i h1
      refine ⟨n, hn, ?_⟩
      rw [cells_int, Nat.mul_one] at hc
      have := congrArg (fun l => l[0]?) hc
      simpa [List.getElem?_take, List.getElem?_drop] using this)
    have hreg : [c2, c3, c4, c5, c6, c7, c8, c9, c10, c11, c12, c13, c14, c15, c16, c17] = intCells rr := by
      apply List.ext_getElem?
      intro i
      rcases Nat.lt_or_ge i 16 with hi | hi
      · rw [(hrp i hi).2, intCells_get _ _ (by omega)]
      · rw [List.getElem?_eq_none (by simpa using hi), List.getElem?_eq_none (by rw [intCells_length, hrl]; exact hi)]
    simp only [List.cons.injEq, and_true] at h0 h1 h6 h7
    subst h0 h1 h6 h7
    refine ⟨⟨pc, dir, rr, m, ss, calls, fp, sb, inp, out⟩, c18, c19, c20, c23, c24, sv, ?_, ⟨hrl, ?_, m1, s1, i1, o1⟩, ⟨hrl, m2, s2, ⟨s3, k1, i2, o2⟩, fun _ h => h⟩, fun l hl' => ?_, ?_⟩
    · unfold mcells
      dsimp only
      rw [← hreg]
      rfl
    · intro x hx
      obtain ⟨i, hi, rfl⟩ := List.mem_iff_getElem.1 hx
      have hi2 : i < rr.length := hi
      have := (hrp i (by omega)).1
      rwa [List.getD_eq_getElem?_getD, List.getElem?_eq_getElem hi] at this
    · rcases s4 l hl' with h0 | ⟨ds, sp, d', sp', hx, hmem, hlen⟩
      · omega
      · have hpart : (ys.map (·.1))[4]? = some (.slice ds sp) := by rw [List.getElem?_map, e4]; simp [hx]
        have hw1 : (d'.length + sp'.length) * Tryz.prog.bytesOf 3 ∈ (DataW.slice ds sp).weights Tryz.prog 47 := by
          simp only [DataW.weights, Tryz.underlying47, List.mem_cons, List.mem_append]
          exact Or.inr (Or.inl (weightsAll_mem hmem _ (by simp [DataW.weights, Tryz.underlying46])))
        have hd1 : d = .agg (ys.map (·.1)) := congrArg Prod.fst hd
        have hw2 := hsz _ (by rw [hd1]; simp only [DataW.weights, Tryz.underlying53]; exact DataW.weights_mem_each (j := 4) rfl hpart _ hw1)
        rw [bytes_int] at hw2
        unfold reachBytes at hw2
        omega
    · rcases k2 with h0 | ⟨ds, sp, hx, hlen⟩
      · show calls.length ≤ _; omega
      · have hpart : (ys.map (·.1))[5]? = some (.slice ds sp) := by rw [List.getElem?_map, e5]; simp [hx]
        have hw1 : (ds.length + sp.length) * Tryz.prog.bytesOf 118 ∈ (DataW.slice ds sp).weights Tryz.prog 51 := by
          simp [DataW.weights, Tryz.underlying51]
        have hd1 : d = .agg (ys.map (·.1)) := congrArg Prod.fst hd
        have hw2 := hsz _ (by rw [hd1]; simp only [DataW.weights, Tryz.underlying53]; exact DataW.weights_mem_each (j := 5) rfl hpart _ hw1)
        rw [bytes_act] at hw2
        unfold reachBytes at hw2
        show calls.length ≤ _
        omega
/-- A machine that can be read: without the bound of the activations. -/
theorem open_mach {r : Reach} {b0 : Nat} {v : Value} {d : DataW H} {ps : List MemPlace} (hv : Value.okWide Tryz.prog w r b0 53 v) (h : DataW.Trod enc Tryz.prog w base spare held 53 v d ps)
    (hsz : ∀ n ∈ d.weights Tryz.prog 53, n ≤ reachBytes) :
    ∃ (M : Mach) (vm vs vc vi vo : Value) (sv : List Value), v = .agg (mcells M vm vs vc vi vo).toArray ∧ MWf M ∧ MLs w (· < w.heap.size) M vm vs vc vi vo sv ∧ ∀ l ∈ M.s, l.length ≤ 17592186043904 := by
  obtain ⟨M, vm, vs, vc, vi, vo, sv, h1, h2, h3, h4, _⟩ := open_machC hv h hsz
  exact ⟨M, vm, vs, vc, vi, vo, sv, h1, h2, h3, h4⟩
end
end Go.Proofs.YtbijhlgdilkopaaGreatDoor

/- The table of the instruction set: what the row lists; a world for the witness. -/
set_option maxRecDepth 100000
set_option maxHeartbeats 8000000
set_option maxRecDepth 100000
set_option linter.unusedVariables false
namespace Go.Proofs.YtbijhlgdilkopaaGreatDoor
open Go.RowKit Go.ChangeShapes Go.WideShapes Go.ChangeAt Bk

theorem own_knob : ownKnob Tryz.prog.godebug = none := by kernel_rfl
theorem gTab : Tryz.prog.globalNamed "backstep/isa.table" = some 0 := by kernel_rfl

theorem cells_op : Tryz.prog.cellsOf 126 = 2 := by kernel_rfl

theorem trod_num {H : Type} {enc : TypeId × Value → H} {w : World} {base : Nat} {spare : Nat → Bool} {held : Bool} {fuel : Nat} {cs : List Value} {s : List UInt8} {n : Int} {p : List MemPlace}
    (h : DataW.trod enc Tryz.prog w base spare held fuel 126 cs = some (.agg [.lit (.string s), .lit (.int .i64 n)], p)) : cs[1]? = some (.int .i64 n) := by
  obtain ⟨ys, m, _, hx, hcl, hl, hf⟩ := DataW.trod_struct Tryz.underlying126 h
  rw [cells_op] at hcl
  match cs, hcl with
  | [c0, c1], _ =>
    have e1 : ∃ y, ys[1]? = some y := ⟨_, List.getElem?_eq_getElem (by rw [hl]; decide)⟩
    obtain ⟨y1, e1⟩ := e1
    have h1 := hf 1 _ rfl
    rw [e1] at h1
    obtain ⟨n1, hc, hy, _⟩ := DataW.trod_int Tryz.underlying3 h1
    have hc1 : c1 = .int .i64 n1 := by simpa [cells_int] using hc
    have hd := (Prod.ext_iff.1 hx).1
    simp only at hd
    have hd2 : (ys.map (·.1))[1]? = some (DataW.lit (.int .i64 n)) := by
      have : (DataW.agg (H := H) (ys.map (·.1))) = .agg [.lit (.string s), .lit (.int .i64 n)] := hd.symm
      injection this with this
      rw [this]; rfl
    rw [List.getElem?_map, e1, hy] at hd2
    simp at hd2
    rw [hc1, hd2]; rfl

theorem table_of {W : World} (h : laidMetH Tryz.prog [("backstep/isa.table", Rows.laid_backstep_isa_table)] W) : TableAt W := by
  have h : laidMet Tryz.prog [("backstep/isa.table", Rows.laid_backstep_isa_table)] W := h
  obtain ⟨ps, ⟨g', t', cs, fuel, p, q, hg', ht', hvar, hd, _, _⟩, _⟩ := h
  obtain rfl := Option.some.inj (gTab.symm.trans hg')
  obtain rfl : 127 = t' := Option.some.inj ((show (Tryz.prog.globals[0]?).map (·.type) = some 127 by kernel_rfl).symm.trans ht')
  obtain ⟨xs, m, _, hx, hcl, hl, hf⟩ := DataW.trod_array Tryz.underlying127 hd
  intro k hk
  have hcell := World.var?_cell gTab hvar (2 * k + 1)
  rw [hcell]
  have h1 := hf k hk
  have hxk : (xs.map (·.1))[k]? = (match Rows.laid_backstep_isa_table (H := Unit) with | .agg l => l[k]? | _ => none) := by
    have := (Prod.ext_iff.1 hx).1
    simp only at this
    rw [this]
  have key : ∀ k, k < 35 → ∃ s, (match Rows.laid_backstep_isa_table (H := Unit) with | .agg l => l[k]? | _ => none) = some (.agg [.lit (.string s), .lit (.int .i64 (arity k))]) := by
    intro k hk
    match k, hk with
    | 0, _ => exact ⟨_, rfl⟩
    | 1, _ => exact ⟨_, rfl⟩
    | 2, _ => exact ⟨_, rfl⟩
    | 3, _ => exact ⟨_, rfl⟩
    | 4, _ => exact ⟨_, rfl⟩
    | 5, _ => exact ⟨_, rfl⟩
    | 6, _ => exact ⟨_, rfl⟩
    | 7, _ => exact ⟨_, rfl⟩
    | 8, _ => exact ⟨_, rfl⟩
    | 9, _ => exact ⟨_, rfl⟩
    | 10, _ => exact ⟨_, rfl⟩
    | 11, _ => exact ⟨_, rfl⟩
    | 12, _ => exact ⟨_, rfl⟩
    | 13, _ => exact ⟨_, rfl⟩
    | 14, _ => exact ⟨_, rfl⟩
    | 15, _ => exact ⟨_, rfl⟩
    | 16, _ => exact ⟨_, rfl⟩
    | 17, _ => exact ⟨_, rfl⟩
    | 18, _ => exact ⟨_, rfl⟩
    | 19, _ => exact ⟨_, rfl⟩
    | 20, _ => exact ⟨_, rfl⟩
    | 21, _ => exact ⟨_, rfl⟩
    | 22, _ => exact ⟨_, rfl⟩
    | 23, _ => exact ⟨_, rfl⟩
    | 24, _ => exact ⟨_, rfl⟩
    | 25, _ => exact ⟨_, rfl⟩
    | 26, _ => exact ⟨_, rfl⟩
    | 27, _ => exact ⟨_, rfl⟩
    | 28, _ => exact ⟨_, rfl⟩
    | 29, _ => exact ⟨_, rfl⟩
    | 30, _ => exact ⟨_, rfl⟩
    | 31, _ => exact ⟨_, rfl⟩
    | 32, _ => exact ⟨_, rfl⟩
    | 33, _ => exact ⟨_, rfl⟩
    | 34, _ => exact ⟨_, rfl⟩
    | k + 35, h => exact absurd h (by omega)
  obtain ⟨s, hs⟩ := key k hk
  rw [hs, List.getElem?_map] at hxk
  obtain ⟨y, hy, hy1⟩ := Option.map_eq_some_iff.1 hxk
  rw [hy, cells_op] at h1
  obtain ⟨d, p⟩ := y
  simp only at hy1
  subst hy1
  have := trod_num h1
  rw [List.getElem?_take, if_pos (by decide), List.getElem?_drop] at this
  rw [← Array.getElem?_toList, ← this]
  congr 1
  omega

/-- A world for the witness: the settled one, the table holding what its initialiser lays. -/
def tableCells : Array Value := #[.string ⟨#[110, 111, 112]⟩, .int .i64 0, .string ⟨#[97, 100, 100]⟩, .int .i64 2, .string ⟨#[115, 117, 98]⟩, .int .i64 2, .string ⟨#[120, 111, 114]⟩, .int .i64 2, .string ⟨#[97, 100, 100, 105]⟩, .int .i64 2, .string ⟨#[115, 117, 98, 105]⟩, .int .i64 2, .string ⟨#[120, 111, 114, 105]⟩, .int .i64 2, .string ⟨#[115, 119, 97, 112]⟩, .int .i64 2, .string ⟨#[110, 101, 103]⟩, .int .i64 1, .string ⟨#[99, 97, 108, 99]⟩, .int .i64 4, .string ⟨#[109, 101, 109]⟩, .int .i64 2, .string ⟨#[105, 100, 120]⟩, .int .i64 4, .string ⟨#[112, 117, 115, 104]⟩, .int .i64 2, .string ⟨#[112, 111, 112]⟩, .int .i64 2, .string ⟨#[116, 111, 112]⟩, .int .i64 2, .string ⟨#[115, 105, 122, 101]⟩, .int .i64 2, .string ⟨#[115, 119, 97, 112, 115]⟩, .int .i64 2, .string ⟨#[114, 101, 97, 100]⟩, .int .i64 1, .string ⟨#[117, 110, 114, 101, 97, 100]⟩, .int .i64 1, .string ⟨#[119, 114, 105, 116, 101]⟩, .int .i64 1, .string ⟨#[117, 110, 119, 114, 105, 116, 101]⟩, .int .i64 1, .string ⟨#[122, 101, 114, 111]⟩, .int .i64 2, .string ⟨#[106, 109, 112]⟩, .int .i64 1, .string ⟨#[106, 109, 112, 122]⟩, .int .i64 2, .string ⟨#[106, 109, 112, 110]⟩, .int .i64 2, .string ⟨#[108, 97, 110, 100]⟩, .int .i64 1, .string ⟨#[108, 97, 110, 100, 122]⟩, .int .i64 2, .string ⟨#[108, 97, 110, 100, 110]⟩, .int .i64 2, .string ⟨#[102, 114, 97, 109, 101]⟩, .int .i64 2, .string ⟨#[117, 110, 102, 114, 97, 109, 101]⟩, .int .i64 2, .string ⟨#[99, 97, 108, 108]⟩, .int .i64 1, .string ⟨#[117, 110, 99, 97, 108, 108]⟩, .int .i64 1, .string ⟨#[115, 116, 97, 114, 116]⟩, .int .i64 1, .string ⟨#[101, 110, 100]⟩, .int .i64 1, .string ⟨#[104, 97, 108, 116]⟩, .int .i64 0]
noncomputable def laidWorld (os : Os) : World :=
  { World.holding Tryz.prog os ⟨#[], #[], []⟩ with heap := (World.holding Tryz.prog os ⟨#[], #[], []⟩).heap.modify 0 fun
      | .cells _ t frozen => .cells tableCells t frozen
      | o => o }
end Go.Proofs.YtbijhlgdilkopaaGreatDoor
