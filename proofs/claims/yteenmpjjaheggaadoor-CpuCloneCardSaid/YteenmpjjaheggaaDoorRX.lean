/- Several texts in one: RcA RcB. -/
import Derived.Test.YteenmpjjaheggaaDoorLwG
import Derived.Test.YteenmpjjaheggaaDoorZREq
import Derived.Maps.AppendAt
import Derived.Laws.OwnMore
import Derived.Test.YteenmpjjaheggaaDoorZHeldL
set_option linter.unusedVariables false
set_option linter.unusedSimpArgs false
/- The reference of layer 24: Copy. -/
set_option maxRecDepth 100000
set_option linter.unusedVariables false
set_option linter.unusedSimpArgs false
namespace Bk
open Go Go.RowKit
/-- A whole list is appended to a slice of one's own. -/
theorem run_append_sl {P : Program} (w : World) (base : Nat) (t ty e : TypeId) (i : TypeInfo) (z : Value) (size bytes : Nat) (ht : P.underlying t = some (.slice e)) (hi : P.info? e = some i) (hz : i.zero = some z) (hsize : i.size = size) (hby : i.bytes = bytes) (hzs : z.cells.size = size) (hsz : 0 < size)
    (v : Value) (n : Nat) (xs : List Value) (hown : w.ownsRow base e size v n xs) {D : Nat → Prop} {u : Value} {m : Nat} {ys : List Value} (hu : Sl w D size u m ys) (h1 : ∀ u ∈ ys, u.oneCell' = true) (h63 : n + m ≤ maxLen) (hbytes : (n + m) * bytes ≤ 140737488355328) (hbase : base ≤ w.heap.size) :
    ∃ v' w', (Builtin.append_ #[t, t] ty #[v, u]).run P w = .ok v' w' ∧ w'.ownsRow base e size v' (n + m) (xs ++ ys) ∧ w.grownBy w' v.ownBlock ∧ (v'.ownBlock = v.ownBlock ∨ v'.ownBlock = some w.heap.size) := by
  obtain ⟨A, cap, rfl, hcap, hA, hR⟩ := hu
  have hl := hR.1
  cases A with
  | none =>
    obtain rfl := hA rfl
    obtain rfl : m = 0 := by omega
    obtain rfl : ys = [] := List.eq_nil_of_length_eq_zero (by rw [hl, Nat.zero_mul])
    exact ⟨v, w, run_append_owned_none w base t ty e i size ht hi v n xs hown, by simpa using hown, World.grownBy.refl _ _, .inl rfl⟩
  | some ad =>
    obtain ⟨v', w', h2, h3, h4, _, h5⟩ := run_append_own_at (P := P) w base t ty e i z size bytes ht hi hz hsize hby hzs hsz v n xs hown ad m cap ys hl (fun j u hu => by
      have hj : j < ys.length := (List.getElem?_eq_some_iff.1 hu).1
      have h0 : 0 < m := by rcases Nat.eq_zero_or_pos m with h | h; (subst h; rw [hl] at hj; omega); exact h
      obtain ⟨b, off, e, _, hc⟩ := hR.2 h0
      injection e with e
      subst e
      rw [Addr.add_lit]
      exact hc j u hu) h1 h63 hbytes hbase
    exact ⟨v', w', h2, h3, h4, h5⟩
theorem wp_appS {P : Program} {o : Oper} {a : Act} {w : World} {K : Act → World → Prop} {Q : Exit → Act → World → Prop} (s x : Operand) (t : TypeId) (ho : o.op = .call { callee := .builtin .append, args := #[s, x], argTypes := #[t, t] })
    (base : Nat) (e : TypeId) (i : TypeInfo) (z : Value) (size bytes : Nat) (ht : P.underlying t = some (.slice e)) (hi : P.info? e = some i) (hz : i.zero = some z) (hsize : i.size = size) (hby : i.bytes = bytes) (hzs : z.cells.size = size) (hsz : 0 < size)
    (v : Value) (n : Nat) (xs : List Value) (hs : a.eval s = v) (hown : w.ownsRow base e size v n xs) {D : Nat → Prop} {u : Value} {m : Nat} {ys : List Value} (hx : a.eval x = u) (hu : Sl w D size u m ys) (h1 : ∀ u ∈ ys, u.oneCell' = true) (h63 : n + m ≤ maxLen) (hbytes : (n + m) * bytes ≤ 140737488355328) (hbase : base ≤ w.heap.size)
    (h : ∀ v' w', w'.ownsRow base e size v' (n + m) (xs ++ ys) → w.grownBy w' v.ownBlock → (v'.ownBlock = v.ownBlock ∨ v'.ownBlock = some w.heap.size) → K (a.put o.dst v') w') : o.wp P a w K Q := by
  obtain ⟨v', w', hr, h2, h3, h5⟩ := run_append_sl (P := P) w base t o.type e i z size bytes ht hi hz hsize hby hzs hsz v n xs hown hu h1 h63 hbytes hbase
  unfold Oper.wp execOp
  simp only [ho, resolve, invoke, builtin, Sem.run_bind, Sem.run_pure, Result.andThen_ok, List.map_toArray, List.map_cons, List.map_nil, hs, hx, hr]
  exact h v' w' h2 h3 h5
theorem step_appS {P : Program} {ops : Array Oper} {o : Oper} {a : Act} {w : World} {K : Act → World → Prop} {Q : Exit → Act → World → Prop} {E : Prop} (hg : o.guard = none) (s x : Operand) (t : TypeId) (ho : o.op = .call { callee := .builtin .append, args := #[s, x], argTypes := #[t, t] })
    (base : Nat) (e : TypeId) (i : TypeInfo) (z : Value) (size bytes : Nat) (ht : P.underlying t = some (.slice e)) (hi : P.info? e = some i) (hz : i.zero = some z) (hsize : i.size = size) (hby : i.bytes = bytes) (hzs : z.cells.size = size) (hsz : 0 < size)
    (v : Value) (n : Nat) (xs : List Value) (hs : a.eval s = v) (hown : w.ownsRow base e size v n xs) {D : Nat → Prop} {u : Value} {m : Nat} {ys : List Value} (hx : a.eval x = u) (hu : Sl w D size u m ys) (h1 : ∀ u ∈ ys, u.oneCell' = true) (h63 : n + m ≤ maxLen) (hbytes : (n + m) * bytes ≤ 140737488355328) (hbase : base ≤ w.heap.size)
    (h : ∀ v' w', w'.ownsRow base e size v' (n + m) (xs ++ ys) → w.grownBy w' v.ownBlock → (v'.ownBlock = v.ownBlock ∨ v'.ownBlock = some w.heap.size) → K (a.put o.dst v') w') :
    if Region.wanted o (yielded ops a.tmps) = true then Oper.wp P o a w K Q else E := by
  rw [if_pos (by simp [Region.wanted, hg])]
  exact wp_appS s x t ho base e i z size bytes ht hi hz hsize hby hzs hsz v n xs hs hown hx hu h1 h63 hbytes hbase h
theorem wpList_appS {P : Program} {ops : Array Oper} {rest : List Oper} {o : Oper} {a : Act} {w : World} {Q : Exit → Act → World → Prop} (hg : o.guard = none) (s x : Operand) (t : TypeId) (ho : o.op = .call { callee := .builtin .append, args := #[s, x], argTypes := #[t, t] })
    (base : Nat) (e : TypeId) (i : TypeInfo) (z : Value) (size bytes : Nat) (ht : P.underlying t = some (.slice e)) (hi : P.info? e = some i) (hz : i.zero = some z) (hsize : i.size = size) (hby : i.bytes = bytes) (hzs : z.cells.size = size) (hsz : 0 < size)
    (v : Value) (n : Nat) (xs : List Value) (hs : a.eval s = v) (hown : w.ownsRow base e size v n xs) {D : Nat → Prop} {u : Value} {m : Nat} {ys : List Value} (hx : a.eval x = u) (hu : Sl w D size u m ys) (h1 : ∀ u ∈ ys, u.oneCell' = true) (h63 : n + m ≤ maxLen) (hbytes : (n + m) * bytes ≤ 140737488355328) (hbase : base ≤ w.heap.size)
    (h : ∀ v' w', w'.ownsRow base e size v' (n + m) (xs ++ ys) → w.grownBy w' v.ownBlock → (v'.ownBlock = v.ownBlock ∨ v'.ownBlock = some w.heap.size) → wpList P ops Q rest (a.put o.dst v') w') : wpList P ops Q (o :: rest) a w :=
  wpList_plain hg fun K hK => wp_appS s x t ho base e i z size bytes ht hi hz hsize hby hzs hsz v n xs hs hown hx hu h1 h63 hbytes hbase fun v' w' h2 h3 h5 => hK _ _ (h v' w' h2 h3 h5)
theorem own_zero (w : World) {base : Nat} {e : TypeId} {size : Nat} (hb : base ≤ w.heap.size) : (w.alloc (.cells #[] e)).ownsRow base e size (.slice (some ⟨w.heap.size, 0, none⟩) 0 0) 0 [] :=
  World.ownsRow_made w #[] 0 hb (Nat.zero_le _) (by simp)
end Bk
namespace Bk
open Go Go.RowKit
/-- What the loop of Copy keeps: the copy lies in block bo. -/
structure RcInv (W0 wj : World) (bo B : Nat) (tM tI : TypeId) (M : Mach) (vm vs vc vi vo : Value) (gm j : Nat) : Prop where
  b : Below W0.heap.size W0 wj
  k : Blk wj bo tM (mcells M vm vs vc vi vo).toArray
  m : Row wj gm vm (intCells M.m)
  bl : B ≤ wj.heap.size
  s : ∃ sv, wj.ownsRow B tI 1 vs j sv ∧ ∀ k, k < j → ∃ u, sv[k]? = some u ∧ Sl wj (fun b => B ≤ b ∧ b < wj.heap.size ∧ vs.ownBlock ≠ some b) 1 u (M.s.getD k []).length (intCells (M.s.getD k []))
section
variable {W0 wj wk w4 : World} {bo B : Nat} {tM tI : TypeId} {M : Mach} {vm vs vc vi vo : Value} {gm j : Nat}
theorem own_lt {w : World} {base : Nat} {e : TypeId} {size n : Nat} {v : Value} {xs : List Value} (h : w.ownsRow base e size v n xs) {k : Nat} (hk : v.ownBlock = some k) : base ≤ k ∧ k < w.heap.size := by
  rcases h.2 with ⟨rfl, _⟩ | ⟨g, cap, cur, rfl, hg, hh, _⟩
  · cases hk
  · injection hk with hk; subst hk; exact ⟨hg, Blk.lt (cs := cur) hh⟩
theorem RcInv.next (h : RcInv W0 wj bo B tM tI M vm vs vc vi vo gm j) (hb : Below wj.heap.size wj wk) (hgm : gm < B) : RcInv W0 wk bo B tM tI M vm vs vc vi vo gm j := by
  obtain ⟨sv, h1, h2⟩ := h.s
  refine ⟨h.b.next hb, h.k.next hb, h.m.keep fun _ => hb.block _ (by have := h.bl; omega), Nat.le_trans h.bl hb.size, sv, own_below h1 hb (Nat.le_refl _), fun k hk => ?_⟩
  obtain ⟨u, hu, hs⟩ := h2 k hk
  exact ⟨u, hu, hs.keep (fun b o hd => hb.cell (p := ⟨b, o, none⟩) hd.2.1) fun k hk => ⟨hk.1, Nat.lt_of_lt_of_le hk.2.1 hb.size, hk.2.2⟩⟩
theorem RcInv.app (h : RcInv W0 wj bo B tM tI M vm vs vc vi vo gm j) (hW : W0.heap.size ≤ bo) (hbo : bo < B) (hgm : gm < B) (hr : M.r.length = 16) (h0 : 0 < (intCells M.m).length → gm ≠ bo) {sv : List Value} (ho : wj.ownsRow B tI 1 vs j sv)
    (hsv : ∀ k, k < j → ∃ u, sv[k]? = some u ∧ Sl wj (fun b => B ≤ b ∧ b < wj.heap.size ∧ vs.ownBlock ≠ some b) 1 u (M.s.getD k []).length (intCells (M.s.getD k [])))
    (hb : Below wj.heap.size wj wk) {u vs' : Value} (hu : Sl wk (fun b => wj.heap.size ≤ b ∧ b < wk.heap.size) 1 u (M.s.getD j []).length (intCells (M.s.getD j [])))
    (hown : w4.ownsRow B tI 1 vs' (j + 1) (sv ++ [u])) (hg : wk.grownBy w4 vs.ownBlock) (hat : vs'.ownBlock = vs.ownBlock ∨ vs'.ownBlock = some wk.heap.size) :
    RcInv W0 (w4.setCell ⟨bo, 19, none⟩ vs') bo B tM tI M vm vs' vc vi vo gm (j + 1) := by
  have ne : ∀ g, g ≠ bo → (w4.setCell ⟨bo, 19, none⟩ vs').heap[g]? = w4.heap[g]? := fun g hg => Below.heap_setCell w4 ⟨bo, 19, none⟩ _ g hg
  have hsz : (w4.setCell ⟨bo, 19, none⟩ vs').heap.size = w4.heap.size := by simp [World.setCell]
  have z1 := hb.size; have z2 := hg.size; have z0 := h.bl
  have hlen : sv.length = j := by have := ho.1; omega
  have old : ∀ g, g < wj.heap.size → vs.ownBlock ≠ some g → w4.heap[g]? = wj.heap[g]? := fun g hg1 hg2 => (hg.block g (by omega) (fun e => hg2 e.symm)).trans (hb.block g hg1)
  have hvb : ∀ g, vs.ownBlock = some g → B ≤ g ∧ g < wj.heap.size := fun g e => own_lt ho e
  have nvb : ∀ g, g < B → vs.ownBlock ≠ some g := fun g h1 e => by have := (hvb g e).1; omega
  have hk4 : Blk w4 bo tM (mcells M vm vs vc vi vo).toArray := (old bo (by omega) (nvb _ hbo)).trans h.k
  have hbel : Below W0.heap.size W0 w4 := (h.b.next hb).grown hg (by have := h.b.size; omega) (fun k hk => by have := (hvb k hk).1; omega)
  refine ⟨⟨hbel.os, hbel.tape, hbel.output, by rw [hsz]; exact hbel.size, fun k hk => (ne k (by omega)).trans (hbel.block k hk)⟩, ?_, ?_, by rw [hsz]; omega, sv ++ [u], ?_, fun k hk => ?_⟩
  · have := hk4.mset hr 1 vs'
    exact this
  · exact (h.m.keep fun _ => old gm (by omega) (nvb _ hgm)).keep fun hn => ne gm (h0 hn)
  · exact own_of_block hown fun g hg1 hg2 => ne g (by have := (own_lt hown hg2).1; omega)
  · by_cases e : k = j
    · subst e
      refine ⟨u, by rw [List.getElem?_append_right (by omega), hlen]; simp, hu.keep (fun b o hd => ?_) fun k' hk' => ⟨by omega, by rw [hsz]; omega, fun e => ?_⟩⟩
      · exact World.cell?_of_block ((ne b (by omega)).trans (hg.block b hd.2 (fun e => by have := (hvb b e.symm).2; omega)))
      · rcases hat with h | h
        · rw [h] at e; have := (hvb k' e).2; omega
        · rw [h] at e; injection e with e; omega
    · obtain ⟨u', hu', hs'⟩ := hsv k (by omega)
      refine ⟨u', by rw [List.getElem?_append_left (by omega)]; exact hu', hs'.keep (fun b o hd => World.cell?_of_block ((ne b (by omega)).trans (old b hd.2.1 hd.2.2))) fun k' hk' => ⟨hk'.1, by rw [hsz]; omega, fun e => ?_⟩⟩
      rcases hat with h | h
      · rw [h] at e; exact hk'.2.2 e
      · rw [h] at e; injection e with e; omega
theorem RcInv.top (h : RcInv W0 wj bo B tM tI M vm vs vc vi vo gm j) (hW : W0.heap.size ≤ bo) (hbo : bo < B) (hr : M.r.length = 16) (h0 : 0 < (intCells M.m).length → gm ≠ bo) (k : Nat) (u : Value) {vc' vi' vo' : Value}
    (hl : [vm, vs, vc, .int .i64 M.fp, .int .i64 M.sb, vi, vo].set k u = [vm, vs, vc', .int .i64 M.fp, .int .i64 M.sb, vi', vo']) : RcInv W0 (wj.setCell ⟨bo, 18 + k, none⟩ u) bo B tM tI M vm vs vc' vi' vo' gm j := by
  have ne : ∀ g, g ≠ bo → (wj.setCell ⟨bo, 18 + k, none⟩ u).heap[g]? = wj.heap[g]? := fun g hg => Below.heap_setCell wj ⟨bo, 18 + k, none⟩ _ g hg
  have hsz : (wj.setCell ⟨bo, 18 + k, none⟩ u).heap.size = wj.heap.size := by simp [World.setCell]
  obtain ⟨sv, h1, h2⟩ := h.s
  have hk := h.k.mset hr k u
  rw [hl] at hk
  refine ⟨⟨h.b.os, h.b.tape, h.b.output, by rw [hsz]; exact h.b.size, fun k hk => (ne k (by omega)).trans (h.b.block k hk)⟩, hk, h.m.keep fun hn => ne _ (h0 hn), by rw [hsz]; exact h.bl, sv, own_of_block h1 fun g _ hg2 => ne g (by have := (own_lt h1 hg2).1; omega), fun k hk => ?_⟩
  obtain ⟨u', hu', hs'⟩ := h2 k hk
  exact ⟨u', hu', hs'.keep (fun b o hd => World.cell?_of_block (ne b (by omega))) fun k hk => ⟨hk.1, by rw [hsz]; exact hk.2.1, hk.2.2⟩⟩
theorem RcInv.done (h : RcInv W0 wj bo B tM tI M vm vs vc vi vo gm M.s.length) (hW : W0.heap.size ≤ bo) (hbo : bo < B) (hr : M.r.length = 16) (hgw : W0.heap.size ≤ gm) (hgm : gm < B) (h0 : 0 < (intCells M.m).length → gm ≠ bo) {B2 : Nat} (hB2 : B ≤ B2) (hvs : ∀ g, vs.ownBlock = some g → g < B2)
    (hc : Sl wj (fun b => B2 ≤ b ∧ b < wj.heap.size) 2 vc M.calls.length (actCells M.calls)) (hi : Sl wj (fun b => B2 ≤ b ∧ b < wj.heap.size) 1 vi M.inp.length (intCells M.inp)) (ho : Sl wj (fun b => B2 ≤ b ∧ b < wj.heap.size) 1 vo M.out.length (intCells M.out)) :
    ∃ sv, MOwn wj W0.heap.size M vm vs vc vi vo sv := by
  obtain ⟨sv, s1, s2⟩ := h.s
  have hbl := h.bl
  have hsl : sv.length = M.s.length := by have := s1.1; omega
  rw [intCells_length] at h0
  refine ⟨sv, hr, gm, ?_⟩
  rcases s1.2 with ⟨e1, e2⟩ | ⟨g, cap, cur, e1, hg, hh, hnc, hcap, hsz, htake⟩
  · have hz : M.s.length = 0 := e2
    have hsv : sv = [] := List.eq_nil_of_length_eq_zero (by omega)
    subst hsv
    have dm : ∀ k, (B2 ≤ k ∧ k < wj.heap.size) → W0.heap.size ≤ k ∧ k < wj.heap.size ∧ k ≠ gm ∧ k ≠ bo := fun k hk => ⟨by omega, hk.2, by omega, by omega⟩
    refine ⟨bo, hgw, hW, by omega, by omega, h0, h.m, ⟨none, 0, by rw [e1]; rfl, Nat.le_refl _, fun _ => rfl, fun hn => absurd hn (Nat.lt_irrefl _)⟩, ⟨hsl, fun k hk => by omega⟩, hc.mono dm, hi.mono dm, ho.mono dm⟩
  · have hvg : vs.ownBlock = some g := by rw [e1]; rfl
    have hg2 := hvs g hvg
    have hgl : g < wj.heap.size := Blk.lt (cs := cur) hh
    have dm : ∀ k, (B2 ≤ k ∧ k < wj.heap.size) → W0.heap.size ≤ k ∧ k < wj.heap.size ∧ k ≠ gm ∧ k ≠ g := fun k hk => ⟨by omega, hk.2, by omega, by omega⟩
    refine ⟨g, hgw, by omega, by omega, hgl, fun _ => by omega, h.m, ⟨_, cap, by rw [e1, hsl], by omega, (fun e => by cases e), fun _ => ⟨rfl, _, cur, hh, fun j u hu => ?_⟩⟩, ⟨hsl, fun k hk => ?_⟩, hc.mono dm, hi.mono dm, ho.mono dm⟩
    · have hj : j < sv.length := (List.getElem?_eq_some_iff.1 hu).1
      have := htake
      rw [Nat.mul_one] at this
      rw [← Array.getElem?_toList, ← hu, ← this, List.getElem?_take, if_pos (by omega)]
    · obtain ⟨u, hu, hs⟩ := s2 k hk
      exact ⟨u, hu, hs.mono fun k' hk' => ⟨by omega, hk'.2.1, by omega, fun e => hk'.2.2 (by rw [hvg, e])⟩⟩
theorem RcInv.k4 (h : RcInv W0 wj bo B tM tI M vm vs vc vi vo gm j) (hbo : bo < B) {sv : List Value} (ho : wj.ownsRow B tI 1 vs j sv) (hb : Below wj.heap.size wj wk) (hg : wk.grownBy w4 vs.ownBlock) : Blk w4 bo tM (mcells M vm vs vc vi vo).toArray :=
  (hg.block bo (by have := hb.size; have := h.bl; omega) (fun e => by have := (own_lt ho e.symm).1; omega)).trans ((hb.block bo (by have := h.bl; omega)).trans h.k)
theorem own_blk0 {w : World} {g base : Nat} {e : TypeId} {size : Nat} (h : Blk w g e #[]) (hb : base ≤ g) : w.ownsRow base e size (.slice (some ⟨g, 0, none⟩) 0 0) 0 [] :=
  ⟨by simp, .inr ⟨g, 0, #[], rfl, hb, h, Nat.le_refl _, Nat.zero_le _, by simp, by simp⟩⟩
theorem own_blk1 {w : World} {g base : Nat} {e : TypeId} {u : Value} (h : Blk w g e #[u]) (hb : base ≤ g) : w.ownsRow base e 1 (.slice (some ⟨g, 0, none⟩) 1 1) 1 [u] :=
  ⟨by simp, .inr ⟨g, 1, _, rfl, hb, h, Nat.le_refl _, by decide, by simp, by simp⟩⟩
theorem sl_blk1 {w : World} {g : Nat} {t : TypeId} {u : Value} (h : Blk w g t #[u]) : Sl w (fun _ => True) 1 (.slice (some ⟨g, 0, none⟩) 1 1) 1 [u] :=
  ⟨_, 1, rfl, Nat.le_refl _, (fun e => by cases e), rfl, fun _ => ⟨g, 0, rfl, trivial, fun j v hv => by
    match j, hv with
    | 0, hv => simp at hv; subst hv; exact h.cell 0⟩⟩
theorem Sl.upB' {w w' : World} {B sz n : Nat} {v : Value} {xs : List Value} (h : Sl w (fun b => B ≤ b ∧ b < w.heap.size) sz v n xs) (hb : Below w.heap.size w w') : Sl w' (fun b => B ≤ b ∧ b < w'.heap.size) sz v n xs :=
  h.keep (fun b o hd => hb.cell (p := ⟨b, o, none⟩) hd.2) fun k hk => ⟨hk.1, Nat.lt_of_lt_of_le hk.2 hb.size⟩
theorem RcInv.c19 (h : RcInv W0 wj bo B tM tI M vm vs vc vi vo gm j) (hr : M.r.length = 16) : wj.cell? ⟨bo, 19, none⟩ = some vs := by
  rw [h.k.cell 19, List.getElem?_toArray]; exact (mc_get hr).2.2.2.2.1
end
theorem Sl.farset' {w : World} {B sz n g o : Nat} {v u : Value} {xs : List Value} (h : Sl w (fun b => B ≤ b ∧ b < w.heap.size) sz v n xs) (hg : g < B) : Sl (w.setCell ⟨g, o, none⟩ u) (fun b => B ≤ b ∧ b < (w.setCell ⟨g, o, none⟩ u).heap.size) sz v n xs :=
  h.keep (fun b o' hd => World.cell?_of_block (Below.heap_setCell w ⟨g, o, none⟩ u b (by simp; omega))) fun k hk => ⟨hk.1, by simpa [World.setCell] using hk.2⟩
end Bk

/- The reference of layer 24: the walk of Copy. -/
set_option maxRecDepth 100000
set_option maxHeartbeats 8000000
set_option maxRecDepth 100000
set_option linter.unusedVariables false
set_option linter.unusedSimpArgs false
namespace Go.Proofs.YteenmpjjaheggaaDoor
open Go.RowKit Bk
variable {w : World} {D : Nat → Prop} {P : Pl} {M : Mach} {vm vs vc vi vo : Value} {sv : List Value}
theorem c_RCopyS (h : MLs w D M vm vs vc vi vo sv) (hB : MLn M) (hst : ∀ l ∈ M.s, l.length ≤ 17592186044401) :
    Calls Tryd.prog 8 #[.agg (mcells M vm vs vc vi vo).toArray] w fun e w' => ∃ vm vs vc vi vo sv, e = .returned (.agg (mcells M vm vs vc vi vo).toArray) ∧ MOwn w' w.heap.size M vm vs vc vi vo sv ∧ Below w.heap.size w w' := by
  have HST := Lib.hid hst; clear hst
  obtain ⟨Am, cm, rfl, hcm, hAm, hRm⟩ := h.m
  obtain ⟨Av, cv, rfl, hcv, hAv, hRv⟩ := h.s
  obtain ⟨Ac, cc, rfl, hcc, hAc, hRc⟩ := h.l.2.1
  obtain ⟨Ai, ci, rfl, hci, hAi, hRi⟩ := h.l.2.2.1
  obtain ⟨Ao, co, rfl, hco, hAo, hRo⟩ := h.l.2.2.2
  have hlen := mc_len M (.slice Am M.m.length cm) (.slice Av M.s.length cv) (.slice Ac M.calls.length cc) (.slice Ai M.inp.length ci) (.slice Ao M.out.length co) h.rl
  have HLEN := Lib.hid hlen
  have HONE := Lib.hid (mc_one (M := M) (vm := .slice Am M.m.length cm) (vs := .slice Av M.s.length cv) (vc := .slice Ac M.calls.length cc) (vi := .slice Ai M.inp.length ci) (vo := .slice Ao M.out.length co) rfl rfl rfl rfl rfl)
  have HL := Lib.hid h; have HB := Lib.hid hB
  clear h hB hlen hcm hAm hRm hcv hAv hRv hcc hAc hRc hci hAi hRi hco hAo hRo
  go_enter Tryd.func8, Tryd.ntmps8
  go_upto_region 1 with fail
  refine wp_nameY ?_
  intro w1 hw1
  have hB_w1 : Below w.heap.size w w1 := by rw [hw1]; exact (by go_grown)
  have K1 : Blk w1 w.heap.size 27 (mcells M (.slice Am M.m.length cm) (.slice Av M.s.length cv) (.slice Ac M.calls.length cc) (.slice Ai M.inp.length ci) (.slice Ao M.out.length co)).toArray := by rw [hw1]; exact (Blk.new _ _ _).alloc _
  have z1 : w1.heap.size = w.heap.size + 2 := by rw [hw1]; simp
  have HM := Lib.hid ((HL.out.next hB_w1).at_ K1)
  have HZC : Hid (Blk w1 (w.heap.size + 1) 27 #[.int .i64 0, .int .i64 0, .int .i64 0, .int .i64 0, .int .i64 0, .int .i64 0, .int .i64 0, .int .i64 0, .int .i64 0, .int .i64 0, .int .i64 0, .int .i64 0, .int .i64 0, .int .i64 0, .int .i64 0, .int .i64 0, .int .i64 0, .int .i64 0, .slice none 0 0, .slice none 0 0, .slice none 0 0, .int .i64 0, .int .i64 0, .slice none 0 0, .slice none 0 0]) := Lib.hid (by rw [hw1]; exact Blk.new' (by simp) _ _)
  clear hw1 K1
  refine wp_region_lit ?_
  refine wpList_loadG 27 rfl rfl rfl (load_mach HM.out) ?_
  simp only [Act.put, Bk.PU]
  refine Great.wpList_allocTo rfl (some 3) rfl (.pointer (some ⟨w1.heap.size, 0, none⟩)) (.cells #[.int .i64 0, .int .i64 0, .int .i64 0, .int .i64 0, .int .i64 0, .int .i64 0, .int .i64 0, .int .i64 0, .int .i64 0, .int .i64 0, .int .i64 0, .int .i64 0, .int .i64 0, .int .i64 0, .int .i64 0, .int .i64 0, .int .i64 0, .int .i64 0, .slice none 0 0, .slice none 0 0, .slice none 0 0, .int .i64 0, .int .i64 0, .slice none 0 0, .slice none 0 0] 27) (by simp [execOp, Instr.alloc, newVar, Sem.run_bind, Value.cells, newRow]) ?_
  refine wpList_store_row rfl 27 (.tmp 3) (.tmp 5) rfl w1.heap.size (mcells M (.slice Am M.m.length cm) (.slice Av M.s.length cv) (.slice Ac M.calls.length cc) (.slice Ai M.inp.length ci) (.slice Ao M.out.length co)).toArray rfl rfl 27 #[.int .i64 0, .int .i64 0, .int .i64 0, .int .i64 0, .int .i64 0, .int .i64 0, .int .i64 0, .int .i64 0, .int .i64 0, .int .i64 0, .int .i64 0, .int .i64 0, .int .i64 0, .int .i64 0, .int .i64 0, .int .i64 0, .int .i64 0, .int .i64 0, .slice none 0 0, .slice none 0 0, .slice none 0 0, .int .i64 0, .int .i64 0, .slice none 0 0, .slice none 0 0] (heap_alloc_new w1 _) (by rw [info_mach25]; simp [HLEN.out]) (by simp [HLEN.out]) (all_oneCell_toArray HONE.out) ?_
  refine wpList_nil ?_
  rename_i K hK
  obtain ⟨w2, hw2⟩ : ∃ w2, w2 = (w1.alloc (.cells #[.int .i64 0, .int .i64 0, .int .i64 0, .int .i64 0, .int .i64 0, .int .i64 0, .int .i64 0, .int .i64 0, .int .i64 0, .int .i64 0, .int .i64 0, .int .i64 0, .int .i64 0, .int .i64 0, .int .i64 0, .int .i64 0, .int .i64 0, .int .i64 0, .slice none 0 0, .slice none 0 0, .slice none 0 0, .int .i64 0, .int .i64 0, .slice none 0 0, .slice none 0 0] 27)).setRow w1.heap.size (mcells M (.slice Am M.m.length cm) (.slice Av M.s.length cv) (.slice Ac M.calls.length cc) (.slice Ai M.inp.length ci) (.slice Ao M.out.length co)).toArray := ⟨_, rfl⟩
  rw [← hw2]
  rw [World.setRow_alloc_new] at hw2
  have hb2 : Below w1.heap.size w1 w2 := by rw [hw2]; exact (Below.refl _ w1).alloc (Nat.le_refl _) _
  have hk2 : Blk w2 w1.heap.size 27 (mcells M (.slice Am M.m.length cm) (.slice Av M.s.length cv) (.slice Ac M.calls.length cc) (.slice Ai M.inp.length ci) (.slice Ao M.out.length co)).toArray := by rw [hw2]; exact Blk.new _ _ _
  have z2 : w2.heap.size = w1.heap.size + 1 := by rw [hw2]; simp
  clear hw2
  refine hK _ _ ?_
  clear hK
  simp only [Act.put]
  have HM2 := Lib.hid (HM.out.next hb2)
  have HB12 := Lib.hid hb2
  have HK2 := Lib.hid hk2
  have hB_w2 := hB_w1.next hb2
  obtain ⟨i2, li, lz, ls, lb⟩ := info_parts info_intP
  have e18 : w2.cell? ⟨w.heap.size, 18, none⟩ = some (.slice Am M.m.length cm) := by have := HM2.out.c18; simp only [Nat.zero_add] at this; exact this
  have hml := HB.out.ml
  have hw12 : w.heap.size < w1.heap.size := by omega
  have hw22 : w1.heap.size < w2.heap.size := by omega
  have hw02 : w.heap.size < w2.heap.size := by omega
  have HZ1 := Lib.hid z1; have HZ2 := Lib.hid z2
  clear hk2 hb2 z1 z2
  go_wp2_with (at_builtin; go_loud (refine wpList_appS rfl (.tmp 6) (.tmp 8) 23 rfl w2.heap.size 3 i2 _ 1 8 Tryd.underlying23 li lz ls lb rfl (by decide) _ 0 [] rfl (own_zero w2 (Nat.le_refl _)) rfl (HM2.out.next (by go_grown)).m (oneInt _) (by unfold maxLen; omega) (by omega) (by simp) ?_))
  intro vm' w3 hown hgr hat
  have hb3 : Below w2.heap.size w2 w3 := Below.grown (by go_grown) hgr (by simp) (fun k hk => by simp [Value.ownBlock] at hk; omega)
  have HB13 := Lib.hid (HB12.out.next hb3)
  obtain ⟨am', cm', rfl⟩ := own_form hown
  have hB_w3 := hB_w2.next hb3
  have HK3 := Lib.hid (HK2.out.next hb3)
  have hbo3 : w1.heap.size < w3.heap.size := HK3.out.lt
  obtain ⟨gm, gm0, gm1, gm2, hrow⟩ := Row.of_own hown (intCells_length _) w1.heap.size hw22 hbo3
  have HROW := Lib.hid hrow
  have G := mc_get (M := M) (vm := .slice Am M.m.length cm) (vs := .slice Av M.s.length cv) (vc := .slice Ac M.calls.length cc) (vi := .slice Ai M.inp.length ci) (vo := .slice Ao M.out.length co) HL.out.rl
  have E18 := HK3.out.cell 18; have F18 := HK3.out.frozen 18
  have E19 := HK3.out.cell 19; have F19 := HK3.out.frozen 19
  simp only [List.getElem?_toArray, G.2.2.2.1] at E18
  simp only [List.getElem?_toArray, G.2.2.2.2.1] at E19
  clear hrow hgr hat hown hb3 G
  go_upto_region 4 with fail
  refine wp_nameY ?_
  intro w4 hw4
  obtain ⟨B, hBdef⟩ : ∃ B, B = w4.heap.size := ⟨_, rfl⟩
  have z34 : w4.heap.size = w3.heap.size := by rw [hw4]; simp [World.setCell]
  have hI : RcInv w1 w4 w1.heap.size B 27 23 M (.slice am' M.m.length cm') (.slice none 0 0) (.slice Ac M.calls.length cc) (.slice Ai M.inp.length ci) (.slice Ao M.out.length co) gm 0 := by
    have k1 : Blk (w3.setCell ⟨w1.heap.size, 18, none⟩ (.slice am' M.m.length cm')) w1.heap.size 27 (mcells M (.slice am' M.m.length cm') (.slice Av M.s.length cv) (.slice Ac M.calls.length cc) (.slice Ai M.inp.length ci) (.slice Ao M.out.length co)).toArray := HK3.out.mset HL.out.rl 0 _
    have k2 : Blk ((w3.setCell ⟨w1.heap.size, 18, none⟩ (.slice am' M.m.length cm')).setCell ⟨w1.heap.size, 19, none⟩ (.slice none 0 0)) w1.heap.size 27 (mcells M (.slice am' M.m.length cm') (.slice none 0 0) (.slice Ac M.calls.length cc) (.slice Ai M.inp.length ci) (.slice Ao M.out.length co)).toArray := k1.mset HL.out.rl 1 _
    have hb13 : Below w1.heap.size w1 w3 := HB13.out
    have hw01 : w1.heap.size ≤ w1.heap.size := Nat.le_refl _
    refine ⟨by rw [hw4]; exact (by go_grown), by rw [hw4]; exact k2, HROW.out.keep fun hn => ?_, by omega, [], ⟨rfl, .inl ⟨rfl, rfl⟩⟩, fun k hk => by omega⟩
    have g := gm2 hn
    rw [hw4]
    exact (Below.heap_setCell _ ⟨w1.heap.size, 19, none⟩ _ _ g).trans (Below.heap_setCell _ ⟨w1.heap.size, 18, none⟩ _ _ g)
  have hgB : gm < B := by omega
  have hbB : w1.heap.size < B := by omega
  have hwb : w.heap.size ≤ w1.heap.size := by omega
  have HI := Lib.hid hI
  clear hw4 E18 F18 E19 F19 hI
  go_wp2_with fail
  have hms : M.s.length ≤ 16384 := HB.out.sl
  go_loopw [4] (fun v wr => ∃ (j : Nat) (vs : Value), j ≤ M.s.length ∧ v = .int .i64 j ∧ RcInv w1 wr w1.heap.size B 27 23 M (.slice am' M.m.length cm') vs (.slice Ac M.calls.length cc) (.slice Ai M.inp.length ci) (.slice Ao M.out.length co) gm j) (fun v _ => M.s.length - (intOf v).toNat)
  case atStart => exact ⟨0, _, Nat.zero_le _, rfl, HI.out⟩
  case round =>
    obtain ⟨j, vs, hj, rfl, hI⟩ := hrel
    have HJ := Lib.hid hI
    have hBr := hI.b
    have HMr := Lib.hid (HM.out.next hBr)
    have a19 : wr.cell? ⟨w.heap.size, 19, none⟩ = some (.slice Av M.s.length cv) := by have := HMr.out.c19; simp only [Nat.zero_add] at this; exact this
    obtain ⟨sv', hs1, hs2⟩ := hI.s
    obtain ⟨Avs, cvs, rfl⟩ := own_form hs1
    have HS1 := Lib.hid hs1; have HS2 := Lib.hid hs2
    have hwr1 : w1.heap.size < wr.heap.size := hI.k.lt
    have hwr0 : w.heap.size < wr.heap.size := by omega
    have hBwr : B ≤ wr.heap.size := hI.bl
    clear hI hs1 hs2 hBr
    by_cases hlt : j < M.s.length
    · obtain ⟨_, _, he, _, _, hRV⟩ := HMr.out.s
      injection he with he1 he2 he3
      subst he1; subst he3
      obtain ⟨bs, os, rfl, hds, hcell⟩ := hRV.2 (by omega)
      obtain ⟨u, hu, hsl⟩ := HMr.out.l.1.2 j hlt
      have hbs : bs < wr.heap.size := HMr.out.d _ hds
      have hbsw : bs < w.heap.size := HL.out.d _ hds
      have cu := hcell j u hu
      have HU := Lib.hid hsl
      have hlen' : (M.s.getD j []).length ≤ 17592186044401 := HST.out _ (getD_mem hlt)
      obtain ⟨lj, hlj⟩ : ∃ l, l = M.s.getD j [] := ⟨_, rfl⟩
      have HLJ := Lib.hid hlj
      rw [← hlj] at hsl HU hlen'
      obtain ⟨Au, cc', rfl, _⟩ := hsl
      have b19 := HJ.out.c19 HL.out.rl
      have j0 : (0 : Int) ≤ (j : Int) := by omega
      have j1 : (j : Int) < (M.s.length : Int) := by omega
      have HGB := Lib.hid hgB; have HBB := Lib.hid hbB; have HWB1 := Lib.hid (Nat.le_refl w1.heap.size)
      clear hcell hu hds he2 hRV hlj
      go_upto_region 7 with fail
      obtain ⟨i3, mi, mz, ms, mb⟩ := info_parts info_ints
      refine wp_region_heldL (S := fun W => Fr (fun k => (Value.slice Avs j cvs).ownBlock = some k) wr W) 12 (by kernel_rfl) ((Fr.refl _ _).drew) (fun hH => ?_)
      refine tkL 0 (v := ?_) rfl (by kernel_rfl) (fun _ _ _ h => h) (by rfl) ?hy hH ?_
      case hy => (intro w9_ hS9; clear hS9; go_simp; try with_reducible rfl)
      (try simp only [Bk.PU, Act.put])
      refine tkL 1 (v := ?_) rfl (by kernel_rfl) (fun _ _ _ h => h) (by rfl) ?hy hH ?_
      case hy => (intro w9_ hS9; have t19 := (hS9.cell (b := w1.heap.size) hwr1 (fun h => by have := (own_lt HS1.out h).1; omega) 19).trans b19; clear hS9; go_simp; try with_reducible rfl)
      (try simp only [Bk.PU, Act.put])
      refine tkL 3 (v := ?_) rfl (by kernel_rfl) (fun _ _ _ h => h) (by rfl) ?hy hH ?_
      case hy => (intro w9_ hS9; clear hS9; go_simp; try with_reducible rfl)
      (try simp only [Bk.PU, Act.put])
      refine tkL 4 (v := ?_) rfl (by kernel_rfl) (fun _ _ _ h => h) (by rfl) ?hy hH ?_
      case hy => (intro w9_ hS9; have t19 := (hS9.cell (b := w.heap.size) hwr0 (fun h => by have := (own_lt HS1.out h).1; omega) 19).trans a19; clear hS9; go_simp; try with_reducible rfl)
      (try simp only [Bk.PU, Act.put])
      refine tkL 5 (v := ?_) rfl (by kernel_rfl) (fun _ _ _ h => h) (by rfl) ?hy hH ?_
      case hy => (intro w9_ hS9; clear hS9; go_simp; try with_reducible rfl)
      (try simp only [Bk.PU, Act.put])
      refine tkL 6 (v := ?_) rfl (by kernel_rfl) (fun _ _ _ h => h) (by rfl) ?hy hH ?_
      case hy => (intro w9_ hS9; clear hS9; go_simp; try with_reducible rfl)
      (try simp only [Bk.PU, Act.put])
      refine tkL 7 (v := ?_) rfl (by kernel_rfl) (fun _ _ _ h => h) (by rfl) ?hy hH ?_
      case hy => (intro w9_ hS9; have t19 := (hS9.cell (b := bs) hbs (fun h => by have := (own_lt HS1.out h).1; have := hbsw; omega) (os + j)).trans cu; clear hS9; go_simp; try with_reducible rfl)
      (try simp only [Bk.PU, Act.put])
      refine wpAnyL_next (i := 2) rfl (by kernel_rfl) (fun K hK => ?_)
      go_simp
      replace hH := hH.alloc (.cells #[] 3)
      refine hK.out _ _ hH (fun _ => ?_)
      clear hK
      (try simp only [Bk.PU, Act.put])
      refine wpAnyL_at ?_
      intro w6 hw6
      have hX6 : Below wr.heap.size wr w6 := by rw [hw6]; exact (Below.refl _ _).drew.alloc (by simp) _
      have K6 : Blk w6 wr.heap.size 3 #[] := by rw [hw6]; exact Blk.new' (by simp) _ _
      replace hH : Fr (fun k => (Value.slice Avs j cvs).ownBlock = some k) wr w6 := Fr.of hX6
      clear hw6
      refine wpAnyL_next (i := 8) rfl (by kernel_rfl) (fun K hK => ?_)
      rw [if_pos (by rfl)]
      refine wp_appS (.tmp 21) (.tmp 26) 23 rfl wr.heap.size 3 i2 _ 1 8 Tryd.underlying23 li lz ls lb rfl (by decide) (.slice (some ⟨wr.heap.size, 0, none⟩) 0 0) 0 [] (by simp [Act.eval]) (own_blk0 K6 (Nat.le_refl _)) (by simp [Act.eval]) (HU.out.upD HMr.out.d hX6) (oneInt _) (by unfold maxLen; omega) (by omega) hX6.size ?_
      intro v1 wk hown1 hgr1 hat1
      have hXk : Below wr.heap.size wr wk := hX6.grown hgr1 hX6.size (fun k hk => by simp [Value.ownBlock] at hk; omega)
      replace hH : Fr (fun k => (Value.slice Avs j cvs).ownBlock = some k) wr wk := Fr.of hXk
      obtain ⟨A1, c1, rfl⟩ := own_form hown1
      have HO1 := Lib.hid hown1
      clear hown1 hgr1 hat1
      refine hK.out _ _ hH (fun _ => ?_)
      clear hK
      (try simp only [Bk.PU, Act.put])
      refine wpAnyL_next (i := 9) rfl (by kernel_rfl) (fun K hK => ?_)
      go_simp
      replace hH := hH.alloc (.cells #[.slice A1 (0 + lj.length) c1] 23)
      refine hK.out _ _ (by first | exact hH | (simpa using hH)) (fun _ => ?_)
      clear hK
      (try simp only [Bk.PU, Act.put])
      refine wpAnyL_at ?_
      intro w9 hw9
      have hX9k : Below wk.heap.size wk w9 := by rw [hw9]; exact (Below.refl _ _).alloc (Nat.le_refl _) _
      have hX9 : Below wr.heap.size wr w9 := hXk.next hX9k
      have K9 : Blk w9 wk.heap.size 23 #[.slice A1 (0 + lj.length) c1] := by rw [hw9]; first | exact Blk.new' rfl _ _ | (simp; exact Blk.new' rfl _ _)
      replace hH : Fr (fun k => (Value.slice Avs j cvs).ownBlock = some k) wr w9 := Fr.of hX9
      clear hw9
      refine wpAnyL_next (i := 10) rfl (by kernel_rfl) (fun K hK => ?_)
      rw [if_pos (by rfl)]
      refine wp_appS (.tmp 20) (.tmp 28) 24 rfl B 23 i3 _ 1 24 Tryd.underlying24 mi mz ms mb rfl (by decide) (.slice Avs j cvs) j sv' (by simp [Act.eval]) (own_below HS1.out hX9 (Nat.le_refl _)) (by simp [Act.eval]) (sl_blk1 K9) (by intro u hu; simp at hu; subst hu; rfl) (by unfold maxLen; omega) (by omega) (by have := hX9.size; omega) ?_
      intro v2 w5 hown2 hgr2 hat2
      have K5 := HJ.out.k4 HBB.out HS1.out hX9 hgr2
      have HF := Lib.hid (HJ.out.app HWB1.out HBB.out HGB.out HL.out.rl gm2 HS1.out HS2.out hX9 (u := .slice A1 (0 + lj.length) c1) (by rw [← HLJ.out]; exact (Sl.upB' (by have := Sl.of_own HO1.out; simpa using this) hX9k)) hown2 hgr2 hat2)
      obtain ⟨A2, c2, rfl⟩ := own_form hown2
      replace hH : Fr (fun k => (Value.slice Avs j cvs).ownBlock = some k) wr w5 := (Fr.of hX9).trans ⟨hgr2.os, hgr2.tape, hgr2.output, hgr2.size, fun k hk ho => hgr2.block k hk (fun e => ho e.symm)⟩
      have E19 := K5.cell 19; have F19 := K5.frozen 19
      simp only [List.getElem?_toArray, (mc_get HL.out.rl).2.2.2.2.1] at E19
      clear hown2 hgr2 hat2 K5
      refine hK.out _ _ hH (fun _ => ?_)
      clear hK
      (try simp only [Bk.PU, Act.put])
      refine tkL 11 (v := ?_) rfl (by kernel_rfl) (fun _ _ _ h => h) (by rfl) ?hy hH ?_
      case hy => (intro w9_ hS9; clear hS9; go_simp; try with_reducible rfl)
      (try simp only [Bk.PU, Act.put])
      refine wpAnyL_last (l := 12) rfl (by kernel_rfl) (by kernel_rfl) (fun K hK => ?_)
      go_simp
      refine hK.out _ _ ?_
      clear hK
      (try simp only [Bk.PU, Act.put])
      go_wp2_with fail
      exact ⟨⟨j + 1, _, by omega, by go_num, HF.out⟩, by simp [intOf]; omega⟩
    · obtain rfl : j = M.s.length := by omega
      have hcl := HB.out.cl; have hil := HB.out.il; have hol := HB.out.ol
      obtain ⟨B2, hB2d⟩ : ∃ B2, B2 = wr.heap.size := ⟨_, rfl⟩
      have hvs : ∀ g, (Value.slice Avs M.s.length cvs).ownBlock = some g → g < B2 := fun g hg => by have := (own_lt HS1.out hg).2; omega
      have HVS := Lib.hid hvs
      have hB2wr : B2 ≤ wr.heap.size := by omega
      have hBB2 : B ≤ B2 := by omega
      have IA := info_parts info_actX; have II := info_parts info_intP
      obtain ⟨ia, IA⟩ := IA; obtain ⟨ii, II⟩ := II
      have HI_wr := HJ
      clear hvs hB2d HS1 HS2 hlt
      have e20 : wr.cell? ⟨w.heap.size, 20, none⟩ = some (.slice Ac M.calls.length cc) := by have := (HM.out.next HI_wr.out.b).c20; simp only [Nat.zero_add] at this; exact this
      have hw0_wr : w.heap.size < wr.heap.size := by have := HI_wr.out.bl; omega
      go_wp2_with (at_builtin; go_loud (refine wpList_appS rfl (.tmp 31) (.tmp 33) 25 rfl wr.heap.size 39 ia _ 2 16 Tryd.underlying25 IA.1 IA.2.1 IA.2.2.1 IA.2.2.2 rfl (by decide) _ 0 [] rfl (own_zero wr (Nat.le_refl _)) rfl ((HM.out.next HI_wr.out.b).next (by go_grown)).lc (oneActX _) (by unfold maxLen; omega) (by omega) (by simp) ?_))
      intro vn w5 hown hgr hat
      have hb : Below wr.heap.size wr w5 := Below.grown (by go_grown) hgr (by simp) (fun k hk => by simp [Value.ownBlock] at hk; omega)
      obtain ⟨Ax, cx, rfl⟩ := own_form hown
      have HI_w5 := Lib.hid (HI_wr.out.next hb hgB)
      have HSx := Lib.hid ((Sl.of_own hown).mono fun k hk => (⟨Nat.le_trans hB2wr hk.1, hk.2⟩ : B2 ≤ k ∧ k < w5.heap.size))
      have E := HI_w5.out.k.cell 20; have F := HI_w5.out.k.frozen 20
      simp only [List.getElem?_toArray, (mc_get HL.out.rl).2.2.2.2.2.1] at E
      have hb0 : w1.heap.size < w5.heap.size := HI_w5.out.k.lt
      have hB2w5 : B2 ≤ w5.heap.size := Nat.le_trans hB2wr hb.size
      clear hown hgr hat hb e20
      go_upto_region 9 with fail
      refine wp_nameY ?_
      intro w6 hws
      have HI_w6 : Hid (RcInv w1 w6 w1.heap.size B 27 23 M (.slice am' M.m.length cm') (.slice Avs M.s.length cvs) (.slice Ax M.calls.length cx) (.slice Ai M.inp.length ci) (.slice Ao M.out.length co) gm M.s.length) := Lib.hid (by rw [hws]; exact HI_w5.out.top (Nat.le_refl _) hbB HL.out.rl gm2 2 _ rfl)
      have HSx : Hid (Sl w6 (fun b => B2 ≤ b ∧ b < w6.heap.size) 2 (.slice Ax M.calls.length cx) M.calls.length (actCells M.calls)) := Lib.hid (by rw [hws]; exact HSx.out.farset' (by omega))
      have hB2w6 : B2 ≤ w6.heap.size := by rw [hws]; simpa [World.setCell] using hB2w5
      clear hws E F
      have e23 : w6.cell? ⟨w.heap.size, 23, none⟩ = some (.slice Ai M.inp.length ci) := by have := (HM.out.next HI_w6.out.b).c23; simp only [Nat.zero_add] at this; exact this
      have hw0_w6 : w.heap.size < w6.heap.size := by have := HI_w6.out.bl; omega
      go_wp2_with (at_builtin; go_loud (refine wpList_appS rfl (.tmp 36) (.tmp 38) 23 rfl w6.heap.size 3 ii _ 1 8 Tryd.underlying23 II.1 II.2.1 II.2.2.1 II.2.2.2 rfl (by decide) _ 0 [] rfl (own_zero w6 (Nat.le_refl _)) rfl ((HM.out.next HI_w6.out.b).next (by go_grown)).li (oneInt _) (by unfold maxLen; omega) (by omega) (by simp) ?_))
      intro vn w7 hown hgr hat
      have hb : Below w6.heap.size w6 w7 := Below.grown (by go_grown) hgr (by simp) (fun k hk => by simp [Value.ownBlock] at hk; omega)
      obtain ⟨Ay, cy, rfl⟩ := own_form hown
      have HI_w7 := Lib.hid (HI_w6.out.next hb hgB)
      have HSy := Lib.hid ((Sl.of_own hown).mono fun k hk => (⟨Nat.le_trans hB2w6 hk.1, hk.2⟩ : B2 ≤ k ∧ k < w7.heap.size))
      have HSx := Lib.hid (HSx.out.upB' hb)
      have E := HI_w7.out.k.cell 23; have F := HI_w7.out.k.frozen 23
      simp only [List.getElem?_toArray, (mc_get HL.out.rl).2.2.2.2.2.2.2.2.1] at E
      have hb0 : w1.heap.size < w7.heap.size := HI_w7.out.k.lt
      have hB2w7 : B2 ≤ w7.heap.size := Nat.le_trans hB2w6 hb.size
      clear hown hgr hat hb e23
      go_upto_region 10 with fail
      refine wp_nameY ?_
      intro w8 hws
      have HI_w8 : Hid (RcInv w1 w8 w1.heap.size B 27 23 M (.slice am' M.m.length cm') (.slice Avs M.s.length cvs) (.slice Ax M.calls.length cx) (.slice Ay M.inp.length cy) (.slice Ao M.out.length co) gm M.s.length) := Lib.hid (by rw [hws]; exact HI_w7.out.top (Nat.le_refl _) hbB HL.out.rl gm2 5 _ rfl)
      have HSx : Hid (Sl w8 (fun b => B2 ≤ b ∧ b < w8.heap.size) 2 (.slice Ax M.calls.length cx) M.calls.length (actCells M.calls)) := Lib.hid (by rw [hws]; exact HSx.out.farset' (by omega))
      have HSy : Hid (Sl w8 (fun b => B2 ≤ b ∧ b < w8.heap.size) 1 (.slice Ay M.inp.length cy) M.inp.length (intCells M.inp)) := Lib.hid (by rw [hws]; exact HSy.out.farset' (by omega))
      have hB2w8 : B2 ≤ w8.heap.size := by rw [hws]; simpa [World.setCell] using hB2w7
      clear hws E F
      have e24 : w8.cell? ⟨w.heap.size, 24, none⟩ = some (.slice Ao M.out.length co) := by have := (HM.out.next HI_w8.out.b).c24; simp only [Nat.zero_add] at this; exact this
      have hw0_w8 : w.heap.size < w8.heap.size := by have := HI_w8.out.bl; omega
      go_wp2_with (at_builtin; go_loud (refine wpList_appS rfl (.tmp 41) (.tmp 43) 23 rfl w8.heap.size 3 ii _ 1 8 Tryd.underlying23 II.1 II.2.1 II.2.2.1 II.2.2.2 rfl (by decide) _ 0 [] rfl (own_zero w8 (Nat.le_refl _)) rfl ((HM.out.next HI_w8.out.b).next (by go_grown)).lo (oneInt _) (by unfold maxLen; omega) (by omega) (by simp) ?_))
      intro vn w9 hown hgr hat
      have hb : Below w8.heap.size w8 w9 := Below.grown (by go_grown) hgr (by simp) (fun k hk => by simp [Value.ownBlock] at hk; omega)
      obtain ⟨Az, cz, rfl⟩ := own_form hown
      have HI_w9 := Lib.hid (HI_w8.out.next hb hgB)
      have HSz := Lib.hid ((Sl.of_own hown).mono fun k hk => (⟨Nat.le_trans hB2w8 hk.1, hk.2⟩ : B2 ≤ k ∧ k < w9.heap.size))
      have HSx := Lib.hid (HSx.out.upB' hb)
      have HSy := Lib.hid (HSy.out.upB' hb)
      have E := HI_w9.out.k.cell 24; have F := HI_w9.out.k.frozen 24
      simp only [List.getElem?_toArray, (mc_get HL.out.rl).2.2.2.2.2.2.2.2.2.1] at E
      have hb0 : w1.heap.size < w9.heap.size := HI_w9.out.k.lt
      have hB2w9 : B2 ≤ w9.heap.size := Nat.le_trans hB2w8 hb.size
      clear hown hgr hat hb e24
      go_upto_region 11 with fail
      refine wp_nameY ?_
      intro w10 hws
      have HI_w10 : Hid (RcInv w1 w10 w1.heap.size B 27 23 M (.slice am' M.m.length cm') (.slice Avs M.s.length cvs) (.slice Ax M.calls.length cx) (.slice Ay M.inp.length cy) (.slice Az M.out.length cz) gm M.s.length) := Lib.hid (by rw [hws]; exact HI_w9.out.top (Nat.le_refl _) hbB HL.out.rl gm2 6 _ rfl)
      have HSx : Hid (Sl w10 (fun b => B2 ≤ b ∧ b < w10.heap.size) 2 (.slice Ax M.calls.length cx) M.calls.length (actCells M.calls)) := Lib.hid (by rw [hws]; exact HSx.out.farset' (by omega))
      have HSy : Hid (Sl w10 (fun b => B2 ≤ b ∧ b < w10.heap.size) 1 (.slice Ay M.inp.length cy) M.inp.length (intCells M.inp)) := Lib.hid (by rw [hws]; exact HSy.out.farset' (by omega))
      have HSz : Hid (Sl w10 (fun b => B2 ≤ b ∧ b < w10.heap.size) 1 (.slice Az M.out.length cz) M.out.length (intCells M.out)) := Lib.hid (by rw [hws]; exact HSz.out.farset' (by omega))
      have hB2w10 : B2 ≤ w10.heap.size := by rw [hws]; simpa [World.setCell] using hB2w9
      clear hws E F
      obtain ⟨svf, hO⟩ := HI_w10.out.done (by omega) hbB HL.out.rl (by omega) hgB gm2 hBB2 HVS.out HSx.out HSy.out HSz.out
      have HO := Lib.hid hO
      have HRD := Lib.hid (hO.mls.at_ HI_w10.out.k)
      have HZ10 := Lib.hid (HZC.out.next HI_w10.out.b)
      have hB10 : Below w.heap.size w w10 := hB_w1.trans (HI_w10.out.b.mono (by omega))
      have hlen10 := mc_len M (.slice am' M.m.length cm') (.slice Avs M.s.length cvs) (.slice Ax M.calls.length cx) (.slice Ay M.inp.length cy) (.slice Az M.out.length cz) HL.out.rl
      have hw10 : w.heap.size + 1 < w10.heap.size := HZ10.out.lt
      have HLEN10 := Lib.hid hlen10
      have HONE10 := Lib.hid (mc_one (M := M) (vm := .slice am' M.m.length cm') (vs := .slice Avs M.s.length cvs) (vc := .slice Ax M.calls.length cx) (vi := .slice Ay M.inp.length cy) (vo := .slice Az M.out.length cz) rfl rfl rfl rfl rfl)
      clear hO hlen10
      go_wp2_with (first | (refine wpList_loadG 27 rfl rfl rfl (load_mach HRD.out) ?_; simp only [Act.put, Bk.PU]) | (refine wpList_store_row rfl 27 (.tmp 2) (.tmp 46) rfl (w.heap.size + 1) (mcells M (.slice am' M.m.length cm') (.slice Avs M.s.length cvs) (.slice Ax M.calls.length cx) (.slice Ay M.inp.length cy) (.slice Az M.out.length cz)).toArray rfl rfl 27 #[.int .i64 0, .int .i64 0, .int .i64 0, .int .i64 0, .int .i64 0, .int .i64 0, .int .i64 0, .int .i64 0, .int .i64 0, .int .i64 0, .int .i64 0, .int .i64 0, .int .i64 0, .int .i64 0, .int .i64 0, .int .i64 0, .int .i64 0, .int .i64 0, .slice none 0 0, .slice none 0 0, .slice none 0 0, .int .i64 0, .int .i64 0, .slice none 0 0, .slice none 0 0] HZ10.out (by rw [info_mach25]; simp [HLEN10.out]) (by simp [HLEN10.out]) (all_oneCell_toArray HONE10.out) ?_; simp only [Act.put, Bk.PU]))
      generalize hw11 : World.setRow _ _ _ = w11
      have hf11 : Fr (· = w.heap.size + 1) w10 w11 := by rw [← hw11]; exact (Fr.setRow _ _ _).mono (fun k hk => hk)
      have hB11 : Below w.heap.size w w11 := ((Fr.of hB10).trans (hf11.mono (O' := (· = w.heap.size + 1)) (fun k hk => hk))).below (Nat.le_refl _) (fun k hk => by omega)
      have HKF : Hid (Blk w11 (w.heap.size + 1) 27 (mcells M (.slice am' M.m.length cm') (.slice Avs M.s.length cvs) (.slice Ax M.calls.length cx) (.slice Ay M.inp.length cy) (.slice Az M.out.length cz)).toArray) := by rw [← hw11]; exact Lib.hid (setRow_heap _ _ _ _ _ _ HZ10.out)
      have HO11 := Lib.hid ((HO.out.fr hf11 (fun k hk e => by have := HZ1.out; omega)).mono (B' := w.heap.size) (by have := HZ1.out; omega))
      clear hw11 HZ10 hf11
      (try simp only [Exit.inBlock, Exit.then])
      refine bodyPost_ret_by (results_cell_row rfl _ _ (w.heap.size + 1) _ _ _ _ rfl HKF.out Tryd.underlying27 rfl (by rw [info_mach25]; simp [HLEN10.out])) rfl ?_
      exact ⟨_, _, _, _, _, _, rfl, HO11.out, hB11⟩
end Go.Proofs.YteenmpjjaheggaaDoor
