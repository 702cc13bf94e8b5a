/- Several texts in one: AppS EgM1. -/
import Derived.Test.YtbijhlgdilkopaaGreatDoorCpX
import Derived.Maps.AppendAt
import Derived.Laws.OwnMore
import Derived.Laws.AppendOwnNone
import Derived.Test.YtbijhlgdilkopaaGreatDoorEcX
set_option linter.unusedVariables false
set_option linter.unusedSimpArgs false
/- Appends of what is read. -/
set_option linter.unusedVariables false
namespace Bk
open Go Go.RowKit
theorem run_append_sl {P : Program} (w : World) (base : Nat) (t ty e : TypeId) (i : TypeInfo) (z : Value) (size bytes : Nat) (ht : P.underlying t = some (.slice e)) (hi : P.info? e = some i) (hz : i.zero = some z) (hsize : i.size = size) (hby : i.bytes = bytes) (hzs : z.cells.size = size) (hsz : 0 < size)
    (v : Value) (n : Nat) (xs : List Value) (hown : w.ownsRow base e size v n xs) {D : Nat → Prop} {u : Value} {m : Nat} {ys : List Value} (hu : Sl w D size u m ys) (h1 : ∀ u ∈ ys, u.oneCell' = true) (h63 : n + m ≤ maxLen) (hbytes : (n + m) * bytes ≤ 140737488355328) (hbase : base ≤ w.heap.size) :
    ∃ v' w', (Builtin.append_ #[t, t] ty #[v, u]).run P w = .ok v' w' ∧ w'.ownsRow base e size v' (n + m) (xs ++ ys) ∧ w.grownBy w' v.ownBlock ∧ (v'.ownBlock = v.ownBlock ∨ v'.ownBlock = some w.heap.size) := by
  obtain ⟨A, cap, rfl, hcap, hA, hR⟩ := hu
  have hl := hR.1
  cases A with
  | none =>
    obtain rfl := hA rfl
    obtain rfl : m = 0 := by omega
    obtain rfl : ys = [] := List.eq_nil_of_length_eq_zero (by rw [hl, Nat.zero_mul])
    exact ⟨v, w, run_append_owned_none w base t ty e i size ht hi v n xs hown, by simpa using hown, World.grownBy.refl _ _, .inl rfl⟩
  | some ad =>
    obtain ⟨v', w', h2, h3, h4, _, h5⟩ := run_append_own_at (P := P) w base t ty e i z size bytes ht hi hz hsize hby hzs hsz v n xs hown ad m cap ys hl (fun j u hu => by
      have hj : j < ys.length := (List.getElem?_eq_some_iff.1 hu).1
      have h0 : 0 < m := by rcases Nat.eq_zero_or_pos m with h | h; (subst h; rw [hl] at hj; omega); exact h
      obtain ⟨b, off, e, _, hc⟩ := hR.2 h0
      injection e with e
      subst e
      rw [Addr.add_lit]
      exact hc j u hu) h1 h63 hbytes hbase
    exact ⟨v', w', h2, h3, h4, h5⟩
theorem wp_appS {P : Program} {o : Oper} {a : Act} {w : World} {K : Act → World → Prop} {Q : Exit → Act → World → Prop} (s x : Operand) (t : TypeId) (ho : o.op = .call { callee := .builtin .append, args := #[s, x], argTypes := #[t, t] })
    (base : Nat) (e : TypeId) (i : TypeInfo) (z : Value) (size bytes : Nat) (ht : P.underlying t = some (.slice e)) (hi : P.info? e = some i) (hz : i.zero = some z) (hsize : i.size = size) (hby : i.bytes = bytes) (hzs : z.cells.size = size) (hsz : 0 < size)
    (v : Value) (n : Nat) (xs : List Value) (hs : a.eval s = v) (hown : w.ownsRow base e size v n xs) {D : Nat → Prop} {u : Value} {m : Nat} {ys : List Value} (hx : a.eval x = u) (hu : Sl w D size u m ys) (h1 : ∀ u ∈ ys, u.oneCell' = true) (h63 : n + m ≤ maxLen) (hbytes : (n + m) * bytes ≤ 140737488355328) (hbase : base ≤ w.heap.size)
    (h : ∀ v' w', w'.ownsRow base e size v' (n + m) (xs ++ ys) → w.grownBy w' v.ownBlock → (v'.ownBlock = v.ownBlock ∨ v'.ownBlock = some w.heap.size) → K (a.put o.dst v') w') : o.wp P a w K Q := by
  obtain ⟨v', w', hr, h2, h3, h5⟩ := run_append_sl (P := P) w base t o.type e i z size bytes ht hi hz hsize hby hzs hsz v n xs hown hu h1 h63 hbytes hbase
  unfold Oper.wp execOp
  simp only [ho, resolve, invoke, builtin, Sem.run_bind, Sem.run_pure, Result.andThen_ok, List.map_toArray, List.map_cons, List.map_nil, hs, hx, hr]
  exact h v' w' h2 h3 h5
theorem own_blk0 {w : World} {g base : Nat} {e : TypeId} {size : Nat} (h : Blk w g e #[]) (hb : base ≤ g) : w.ownsRow base e size (.slice (some ⟨g, 0, none⟩) 0 0) 0 [] :=
  ⟨by simp, .inr ⟨g, 0, #[], rfl, hb, h, Nat.le_refl _, Nat.zero_le _, by simp, by simp⟩⟩
theorem own_blk1 {w : World} {g base : Nat} {e : TypeId} {u : Value} (h : Blk w g e #[u]) (hb : base ≤ g) : w.ownsRow base e 1 (.slice (some ⟨g, 0, none⟩) 1 1) 1 [u] :=
  ⟨by simp, .inr ⟨g, 1, _, rfl, hb, h, Nat.le_refl _, by decide, by simp, by simp⟩⟩
theorem sl_blk1 {w : World} {g : Nat} {t : TypeId} {u : Value} (h : Blk w g t #[u]) : Sl w (fun _ => True) 1 (.slice (some ⟨g, 0, none⟩) 1 1) 1 [u] :=
  ⟨_, 1, rfl, Nat.le_refl _, (fun e => by cases e), rfl, fun _ => ⟨g, 0, rfl, trivial, fun j v hv => by
    match j, hv with
    | 0, hv => simp at hv; subst hv; exact h.cell 0⟩⟩
end Bk

/- A machine that is being built: its cells, its rows; plain facts of the lists of a case's machine. -/
set_option linter.unusedVariables false
set_option linter.unusedSimpArgs false
namespace Bk
open Go Go.RowKit
/-- Where the lists of a machine that is being built may lie. -/
def RawD (w : World) (B bm gm gs : Nat) (k : Nat) : Prop := B ≤ k ∧ k < w.heap.size ∧ k ≠ bm ∧ k ≠ gm ∧ k ≠ gs
structure RawM (w : World) (B bm gm gs : Nat) (tM tI tS : TypeId) (M : Mach) (sv : List Value) : Prop where
  rl : M.r.length = 16
  sl : sv.length = M.s.length
  b : Blk w bm tM (mcells M (.slice (some ⟨gm, 0, none⟩) M.m.length M.m.length) (.slice (some ⟨gs, 0, none⟩) M.s.length M.s.length) (.slice none 0 0) (.slice none 0 0) (.slice none 0 0)).toArray
  m : Blk w gm tI (intCells M.m).toArray
  s : Blk w gs tS sv.toArray
  l : SvRd w (RawD w B bm gm gs) sv M.s
  ge : B ≤ bm ∧ B ≤ gm ∧ B ≤ gs
  ne : bm ≠ gm ∧ bm ≠ gs ∧ gm ≠ gs
  c : M.calls = [] ∧ M.inp = [] ∧ M.out = []
section
variable {w w' : World} {B bm gm gs : Nat} {tM tI tS : TypeId} {M : Mach} {sv : List Value}
theorem RawM.next (h : RawM w B bm gm gs tM tI tS M sv) (hb : Below w.heap.size w w') : RawM w' B bm gm gs tM tI tS M sv :=
  ⟨h.rl, h.sl, h.b.next hb, h.m.next hb, h.s.next hb, h.l.keep (fun b o hd => hb.cell (p := ⟨b, o, none⟩) hd.2.1) fun k hk => ⟨hk.1, Nat.lt_of_lt_of_le hk.2.1 hb.size, hk.2.2⟩, h.ge, h.ne, h.c⟩
theorem RawM.keepS (h : RawM w B bm gm gs tM tI tS M sv) {p : Addr} (hp : p.block = bm ∨ p.block = gm ∨ p.block = gs) (u : Value) : SvRd (w.setCell p u) (RawD (w.setCell p u) B bm gm gs) sv M.s :=
  h.l.keep (fun b o hd => World.cell?_of_block (Below.heap_setCell w p u b (by have := hd.2.2; omega))) fun k hk => ⟨hk.1, by simpa using hk.2.1, hk.2.2⟩
theorem RawM.setR (h : RawM w B bm gm gs tM tI tS M sv) (k : Nat) (hk : k < 16) (v : Int) : RawM (w.setCell ⟨bm, 2 + k, none⟩ (.int .i64 v)) B bm gm gs tM tI tS { M with r := M.r.set k v } sv := by
  refine ⟨by simp [h.rl], h.sl, ?_, h.m.far (Ne.symm h.ne.1) _, h.s.far (Ne.symm h.ne.2.1) _, h.keepS (.inl rfl) _, h.ge, h.ne, h.c⟩
  have := h.b.set_ (2 + k) (.int .i64 v)
  rw [List.setIfInBounds_toArray] at this
  unfold mcells at this ⊢
  rw [show 2 + k = k + 1 + 1 by omega, List.set_cons_succ, List.set_cons_succ, List.set_append_left _ _ (by rw [intCells_length, h.rl]; exact hk)] at this
  simp only [intCells, List.map_set] at this ⊢
  rwa [show 2 + k = k + 1 + 1 by omega]
theorem intCells_set (l : List Int) (k : Nat) (v : Int) : intCells (l.set k v) = (intCells l).set k (.int .i64 v) := by simp [intCells, List.map_set]
theorem RawM.setM (h : RawM w B bm gm gs tM tI tS M sv) (k : Nat) (v : Int) : RawM (w.setCell ⟨gm, k, none⟩ (.int .i64 v)) B bm gm gs tM tI tS { M with m := M.m.set k v } sv := by
  refine ⟨h.rl, h.sl, ?_, ?_, h.s.far (Ne.symm h.ne.2.2) _, h.keepS (.inr (.inl rfl)) _, h.ge, h.ne, h.c⟩
  · have := h.b.far (p := ⟨gm, k, none⟩) h.ne.1 (.int .i64 v)
    simpa [List.length_set, mcells] using this
  · have := h.m.set_ k (.int .i64 v)
    rw [List.setIfInBounds_toArray] at this
    rwa [← intCells_set] at this
theorem SvRd.put {D : Nat → Prop} {ss : List (List Int)} (h : SvRd w D sv ss) (k : Nat) {u : Value} {l : List Int} (hu : Sl w D 1 u l.length (intCells l)) : SvRd w D (sv.set k u) (ss.set k l) := by
  refine ⟨by simp [h.1], fun j hj => ?_⟩
  rw [List.length_set] at hj
  by_cases e : k = j
  · subst e
    refine ⟨u, by rw [List.getElem?_set, if_pos rfl, if_pos (by rw [h.1]; exact hj)], ?_⟩
    rw [getD_set_self _ _ _ _ hj]; exact hu
  · obtain ⟨v, h1, h2⟩ := h.2 j hj
    refine ⟨v, by rw [List.getElem?_set, if_neg e]; exact h1, ?_⟩
    rw [getD_set_ne _ _ _ _ _ e]; exact h2
theorem RawM.setS (h : RawM w B bm gm gs tM tI tS M sv) (k : Nat) {u : Value} {l : List Int} (hu : Sl w (RawD w B bm gm gs) 1 u l.length (intCells l)) : RawM (w.setCell ⟨gs, k, none⟩ u) B bm gm gs tM tI tS { M with s := M.s.set k l } (sv.set k u) := by
  have hd : (w.setCell ⟨gs, k, none⟩ u).heap.size = w.heap.size := by simp
  refine ⟨h.rl, by simp [h.sl], ?_, h.m.far h.ne.2.2 _, ?_, ?_, h.ge, h.ne, h.c⟩
  · have := h.b.far (p := ⟨gs, k, none⟩) h.ne.2.1 u
    simpa [List.length_set, mcells] using this
  · have := h.s.set_ k u
    rwa [List.setIfInBounds_toArray] at this
  · refine (h.l.put k hu).keep (fun b o hd => World.cell?_of_block (Below.heap_setCell w ⟨gs, k, none⟩ u b (by have := hd.2.2; show b ≠ gs; omega))) fun k hk => ⟨hk.1, by rw [hd]; exact hk.2.1, hk.2.2⟩
theorem RawM.row (h : RawM w B bm gm gs tM tI tS M sv) : Row w gm (.slice (some ⟨gm, 0, none⟩) M.m.length M.m.length) (intCells M.m) ∧ Row w gs (.slice (some ⟨gs, 0, none⟩) M.s.length M.s.length) sv := by
  constructor
  · exact ⟨_, M.m.length, by rw [intCells_length], by rw [intCells_length]; exact Nat.le_refl _, (fun e => by cases e), fun _ => ⟨rfl, _, _, h.m, fun j u hu => by rw [List.getElem?_toArray]; exact hu⟩⟩
  · exact ⟨_, M.s.length, by rw [h.sl], by rw [h.sl]; exact Nat.le_refl _, (fun e => by cases e), fun _ => ⟨rfl, _, _, h.s, fun j u hu => by rw [List.getElem?_toArray]; exact hu⟩⟩
/-- .. as a machine by value. -/
theorem RawM.own (h : RawM w B bm gm gs tM tI tS M sv) : MOwn w B M (.slice (some ⟨gm, 0, none⟩) M.m.length M.m.length) (.slice (some ⟨gs, 0, none⟩) M.s.length M.s.length) (.slice none 0 0) (.slice none 0 0) (.slice none 0 0) sv := by
  refine ⟨h.rl, gm, gs, h.ge.2.1, h.ge.2.2, h.m.lt, h.s.lt, fun _ => h.ne.2.2, h.row.1, h.row.2, ?_⟩
  refine ⟨h.l.keep (fun _ _ _ => rfl) fun k hk => ⟨hk.1, hk.2.1, hk.2.2.2⟩, ?_, ?_, ?_⟩
  · rw [h.c.1]; exact Sl.nil
  · rw [h.c.2.1]; exact Sl.nil
  · rw [h.c.2.2]; exact Sl.nil
end
theorem Fr.grownE {O : Nat → Prop} {w w' w'' : World} {row : Option Nat} (h : Fr O w w') (hg : w'.grownBy w'' row) (hr : ∀ k, row = some k → O k) : Fr O w w'' :=
  ⟨hg.os.trans h.os, hg.tape.trans h.tape, hg.output.trans h.output, Nat.le_trans h.size hg.size, fun k hk ho => (hg.block k (Nat.lt_of_lt_of_le hk h.size) (fun e => ho (hr k e.symm))).trans (h.block k hk ho)⟩
/-- .. behind a stack that has grown in memory of its own. -/
theorem RawM.push {w w' : World} {B bm gm gs : Nat} {tM tI tS e : TypeId} {M : Mach} {sv : List Value} (h : RawM w B bm gm gs tM tI tS M sv) (hB : B ≤ w.heap.size) (hf : Fr (fun b => b = gs ∨ w.heap.size ≤ b) w w') {k : Nat} {q : Value} {l : List Int} {n : Nat} (hs : Blk w' gs tS (sv.set k q).toArray) (hn : l.length = n)
    (hq : w'.ownsRow w.heap.size e 1 q n (intCells l)) : RawM w' B bm gm gs tM tI tS { M with s := M.s.set k l } (sv.set k q) := by
  have hq' := Sl.of_own hq
  rw [← hn] at hq'
  have z1 := h.b.lt; have z2 := h.m.lt; have z3 := h.s.lt; have hne := h.ne; have hsz := hf.size
  refine ⟨h.rl, by simp [h.sl], ?_, hf.blk h.m (by omega), hs, ?_, h.ge, h.ne, h.c⟩
  · have := hf.blk h.b (by omega)
    simpa [List.length_set, mcells] using this
  · refine SvRd.put (h.l.keep (fun b o hd => hf.cell hd.2.1 (by have := hd.2.2; have := hd.2.1; omega) o) fun k hk => ⟨hk.1, by have := hk.2.1; omega, hk.2.2⟩) k ?_
    exact hq'.mono fun k hk => ⟨by omega, hk.2, by omega, by omega, by omega⟩
/-! The lists, step by step. -/
def mkM (fp sb : Nat) (r m : List Int) (s : List (List Int)) : Mach := ⟨0, 1, r, m, s, [], fp, sb, [], []⟩
def regsTo (regs : List Int) (i : Nat) : List Int := (List.range 16).map fun k => if (1 ≤ k ∧ k ≤ 3) ∨ i ≤ k then 0 else regs.getD k 0
theorem regsTo_length (regs : List Int) (i : Nat) : (regsTo regs i).length = 16 := by simp [regsTo]
theorem regsTo_zero (regs : List Int) : regsTo regs 0 = List.replicate 16 0 := by
  simp only [regsTo, Nat.zero_le, or_true, if_true]; rfl
theorem regsTo_skip (regs : List Int) {i : Nat} (h : 1 ≤ i ∧ i ≤ 3) : regsTo regs (i + 1) = regsTo regs i := by
  unfold regsTo
  apply List.map_congr_left
  intro k _
  by_cases e : k = i
  · subst e; rw [if_pos (.inl h), if_pos (.inl h)]
  · by_cases h2 : (1 ≤ k ∧ k ≤ 3) ∨ i ≤ k
    · rw [if_pos h2, if_pos (by omega)]
    · rw [if_neg h2, if_neg (by omega)]
theorem regsTo_set (regs : List Int) {i : Nat} (hi : i < 16) (h : ¬ (1 ≤ i ∧ i ≤ 3)) : regsTo regs (i + 1) = (regsTo regs i).set i (regs.getD i 0) := by
  apply List.ext_getElem (by simp [regsTo])
  intro k h1 h2
  rw [List.getElem_set]
  simp only [regsTo, List.getElem_map, List.getElem_range]
  by_cases e : i = k
  · subst e; rw [if_pos rfl, if_neg (by omega)]
  · rw [if_neg e]
    by_cases h2 : (1 ≤ k ∧ k ≤ 3) ∨ i ≤ k
    · rw [if_pos h2, if_pos (by omega)]
    · rw [if_neg h2, if_neg (by omega)]
theorem regsTo_end (regs : List Int) {i : Nat} (h : regs.length ≤ i ∨ 16 ≤ i) : regsTo regs i = regsL regs := by
  unfold regsTo regsL
  apply List.map_congr_left
  intro k hk
  have hk16 := List.mem_range.1 hk
  by_cases h1 : 1 ≤ k ∧ k ≤ 3
  · rw [if_pos (.inl h1), if_pos h1]
  · rw [if_neg h1]
    by_cases h2 : i ≤ k
    · rw [if_pos (.inr h2), List.getD_eq_getElem?_getD, List.getElem?_eq_none (by omega)]; rfl
    · rw [if_neg (by omega)]
/-- A list whose place behind pre is filled. -/
theorem fill_set {α : Type} (pre : List α) (z v : α) (n : Nat) : (pre ++ List.replicate (n + 1) z).set pre.length v = (pre ++ [v]) ++ List.replicate n z := by
  rw [List.set_append_right _ _ (Nat.le_refl _), Nat.sub_self, List.replicate_succ, List.set_cons_zero]; simp
theorem take_snoc {α : Type} {c : List α} {k : Nat} {v : α} (h : c[k]? = some v) : c.take (k + 1) = c.take k ++ [v] := by rw [List.take_add_one, h]; rfl
def preM (fp : Nat) : List Int := (List.range fp).map fun i : Nat => 100 + (i : Int)
theorem preM_succ (i : Nat) : preM (i + 1) = preM i ++ [100 + (i : Int)] := by simp [preM, List.range_succ]
theorem preM_length (i : Nat) : (preM i).length = i := by simp [preM]
def preS (sb : Nat) : List (List Int) := (List.range sb).map fun i : Nat => [201 + (i : Int)]
theorem preS_succ (i : Nat) : preS (i + 1) = preS i ++ [[201 + (i : Int)]] := by simp [preS, List.range_succ]
theorem preS_length (i : Nat) : (preS i).length = i := by simp [preS]
theorem caseM_eq (vs : List Vr) (cs : List (List Int)) (fp sb : Nat) (regs scratch : List Int) : caseM vs cs fp sb regs scratch = mkM fp sb (regsL regs) (preM fp ++ (memL vs cs ++ List.replicate 80 0)) (scratch :: (preS sb ++ stkL vs cs)) := rfl
theorem memL_take {vs : List Vr} {cs : List (List Int)} : ∀ {i : Nat} {v : Vr} {c : List Int}, vs[i]? = some v → cs[i]? = some c → memL (vs.take (i + 1)) (cs.take (i + 1)) = memL (vs.take i) (cs.take i) ++ (if v.k = 3 then [] else c) ∧ stkL (vs.take (i + 1)) (cs.take (i + 1)) = stkL (vs.take i) (cs.take i) ++ (if v.k = 3 then [c] else []) := by
  intro i
  induction i generalizing vs cs with
  | zero =>
    intro v c hv hc
    match vs, cs, hv, hc with
    | v :: vs, c :: cs, rfl, rfl => simp [memL, stkL]
  | succ i ih =>
    intro v c hv hc
    match vs, cs, hv, hc with
    | u :: vs, d :: cs, hv, hc =>
      obtain ⟨h1, h2⟩ := ih (vs := vs) (cs := cs) (by simpa using hv) (by simpa using hc)
      simp only [List.take_succ_cons, memL, stkL, h1, h2, List.append_assoc, and_self]
theorem FitS.take {vs : List Vr} {cs : List (List Int)} (h : FitS vs cs) (i : Nat) : FitS (vs.take i) (cs.take i) :=
  ⟨by have := h.le; rw [List.length_take]; omega, fun v hv => h.ok v (List.mem_of_mem_take hv), by rw [List.length_take, List.length_take, h.len],
    fun j v c hv hc => h.stk j v c (by rw [List.getElem?_take] at hv; split at hv <;> simp_all) (by rw [List.getElem?_take] at hc; split at hc <;> simp_all),
    fun j v c hv hc => h.fix j v c (by rw [List.getElem?_take] at hv; split at hv <;> simp_all) (by rw [List.getElem?_take] at hc; split at hc <;> simp_all)⟩
theorem slotsL_get {vs : List Vr} : ∀ {i : Nat} {v : Vr}, vs[i]? = some v → ∀ c s, (slotsL vs c s)[i]? = some ⟨v.nm, v.k, v.len, if v.k = 3 then s + stksOf (vs.take i) + 1 else c + cellsOf (vs.take i)⟩ := by
  intro i
  induction i generalizing vs with
  | zero =>
    intro v hv c s
    match vs, hv with
    | v :: vs, rfl => simp [slotsL, stksOf, cellsOf]
  | succ i ih =>
    intro v hv c s
    match vs, hv with
    | u :: vs, hv =>
      simp only [slotsL, List.getElem?_cons_succ]
      rw [ih (by simpa using hv)]
      simp only [List.take_succ_cons, stksOf, cellsOf, List.map_cons, List.sum_cons, Int.add_assoc]
theorem sums_take (l : List Vr) (h : ∀ v ∈ l, v.Ok) (a : Nat) : cellsOf (l.take a) ≤ cellsOf l ∧ stksOf (l.take a) ≤ stksOf l := by
  have e1 : cellsOf l = cellsOf (l.take a) + cellsOf (l.drop a) := by
    conv => lhs; rw [← List.take_append_drop a l]
    simp only [cellsOf, List.map_append, List.sum_append]
  have e2 : stksOf l = stksOf (l.take a) + stksOf (l.drop a) := by
    conv => lhs; rw [← List.take_append_drop a l]
    simp only [stksOf, List.map_append, List.sum_append]
  have := sums_le (l.drop a) fun v hv => h v (List.mem_of_mem_drop hv)
  omega
theorem fill_set3 {α : Type} (p q r : List α) (z v : α) (n ix : Nat) (h : ix = p.length + q.length + r.length) : (p ++ (q ++ (r ++ List.replicate (n + 1) z))).set ix v = p ++ (q ++ ((r ++ [v]) ++ List.replicate n z)) := by
  have := fill_set (p ++ q ++ r) z v n
  rw [List.length_append, List.length_append, ← h] at this
  simpa only [List.append_assoc] using this
theorem fill_set4 {α : Type} (s : α) (p q : List α) (z v : α) (n ix : Nat) (h : ix = 1 + p.length + q.length) : (s :: (p ++ (q ++ List.replicate (n + 1) z))).set ix v = s :: (p ++ (q ++ [v] ++ List.replicate n z)) := by
  have := fill_set (s :: p ++ q) z v n
  rw [show (s :: p ++ q).length = ix by simp; omega] at this
  simpa only [List.append_assoc, List.cons_append] using this
theorem set_put4 {α : Type} (s : α) (p q r : List α) (z v : α) (ix : Nat) (h : ix = 1 + p.length + q.length) : (s :: (p ++ (q ++ (z :: r)))).set ix v = s :: (p ++ (q ++ (v :: r))) := by
  have e : (s :: p ++ q ++ (z :: r)).set ix v = s :: p ++ q ++ (v :: r) := by
    rw [List.set_append_right _ _ (by simp; omega), show ix - (s :: p ++ q).length = 0 by simp; omega, List.set_cons_zero]
  simpa only [List.append_assoc, List.cons_append] using e
theorem mc_one {M : Mach} {vm vs vc vi vo : Value} (h1 : vm.oneCell' = true) (h2 : vs.oneCell' = true) (h3 : vc.oneCell' = true) (h4 : vi.oneCell' = true) (h5 : vo.oneCell' = true) : ∀ v ∈ mcells M vm vs vc vi vo, v.oneCell' = true := by
  intro v hv
  simp only [mcells, List.mem_cons, List.mem_append, List.not_mem_nil, or_false] at hv
  rcases hv with rfl | rfl | hv | rfl | rfl | rfl | rfl | rfl | rfl | rfl <;> first | rfl | assumption | exact oneInt _ _ hv
end Bk
