/- Machines in memory: how a machine lies in a block; what a step may change. -/
import Derived.Test.YtakfdnnlhjhcfaaGreatDoorM0
import Derived.OwnWalk
set_option linter.unusedVariables false
set_option linter.unusedSimpArgs false
namespace Bk
open Go Go.RowKit
def intCells (l : List Int) : List Value := l.map (.int .i64 ·)
def actCells (l : List (Int × Bool)) : List Value := l.flatMap fun a => [.int .i64 a.1, .bool a.2]
theorem intCells_length (l : List Int) : (intCells l).length = l.length := by simp [intCells]
theorem intCells_get (l : List Int) (k : Nat) (h : k < l.length) : (intCells l)[k]? = some (.int .i64 (l.getD k 0)) := by
  simp [intCells, List.getD_eq_getElem?_getD, h]
structure Fr (O : Nat → Prop) (w w' : World) : Prop where
  os : w'.os = w.os
  tape : w'.tape = w.tape
  output : w'.output = w.output
  size : w.heap.size ≤ w'.heap.size
  block : ∀ k, k < w.heap.size → ¬ O k → w'.heap[k]? = w.heap[k]?
section
variable {O : Nat → Prop} {w w' w'' : World}
theorem Fr.refl (O : Nat → Prop) (w : World) : Fr O w w := ⟨rfl, rfl, rfl, Nat.le_refl _, fun _ _ _ => rfl⟩
theorem Fr.trans (h : Fr O w w') (h' : Fr O w' w'') : Fr O w w'' :=
  ⟨h'.os.trans h.os, h'.tape.trans h.tape, h'.output.trans h.output, Nat.le_trans h.size h'.size, fun k hk ho => (h'.block k (Nat.lt_of_lt_of_le hk h.size) ho).trans (h.block k hk ho)⟩
theorem Fr.next (h : Fr O w w') (hb : Below w'.heap.size w' w'') : Fr O w w'' :=
  h.trans ⟨hb.os, hb.tape, hb.output, hb.size, fun k hk _ => hb.block k hk⟩
theorem Fr.of (hb : Below w.heap.size w w') : Fr O w w' := (Fr.refl O w).next hb
theorem Fr.drew (h : Fr O w w') : Fr O w w'.drew := ⟨h.os, h.tape, h.output, h.size, h.block⟩
theorem Fr.drewN (h : Fr O w w') (n : Nat) : Fr O w (w'.drewN n) := ⟨h.os, h.tape, h.output, h.size, h.block⟩
theorem Fr.alloc (h : Fr O w w') (o : Obj) : Fr O w (w'.alloc o) := h.next ((Below.refl _ _).alloc (Nat.le_refl _) _)
theorem Fr.set (h : Fr O w w') {p : Addr} (hp : O p.block) (u : Value) : Fr O w (w'.setCell p u) :=
  h.trans ⟨rfl, rfl, rfl, by simp [World.setCell], fun k hk ho => Below.heap_setCell _ _ _ _ (fun e => ho (e ▸ hp))⟩
theorem Fr.grown {row : Option Nat} (h : Fr O w w') (hg : w'.grownBy w'' row) (hr : ∀ k, row = some k → w'.heap.size ≤ k) : Fr O w w'' :=
  h.next ((Below.refl _ _).grown hg (Nat.le_refl _) hr)
theorem Fr.below (h : Fr O w w') {B : Nat} (hB : B ≤ w.heap.size) (hO : ∀ k, O k → B ≤ k) : Below B w w' :=
  ⟨h.os, h.tape, h.output, h.size, fun k hk => h.block k (by omega) (fun ho => by have := hO k ho; omega)⟩
theorem Fr.cell (h : Fr O w w') {b : Nat} (hb : b < w.heap.size) (ho : ¬ O b) (o : Nat) : w'.cell? ⟨b, o, none⟩ = w.cell? ⟨b, o, none⟩ := World.cell?_of_block (h.block b hb ho)
theorem Fr.mono {O' : Nat → Prop} (h : Fr O w w') (hO : ∀ k, O k → O' k) : Fr O' w w' := ⟨h.os, h.tape, h.output, h.size, fun k hk ho => h.block k hk (fun h => ho (hO k h))⟩
theorem Fr.blk (h : Fr O w w') {g : Nat} {t : TypeId} {cs : Array Value} (hb : Blk w g t cs) (ho : ¬ O g) : Blk w' g t cs := (h.block g hb.lt ho).trans hb
end
def Sl (w : World) (D : Nat → Prop) (size : Nat) (v : Value) (n : Nat) (xs : List Value) : Prop :=
  ∃ A cap, v = .slice A n cap ∧ n ≤ cap ∧ (A = none → cap = 0) ∧ Rd w D size A n xs
section
variable {w w' : World} {D D' : Nat → Prop} {size n : Nat} {v : Value} {xs : List Value}
theorem Sl.keep (h : Sl w D size v n xs) (hk : ∀ b o, D b → w'.cell? ⟨b, o, none⟩ = w.cell? ⟨b, o, none⟩) (hD : ∀ k, D k → D' k) : Sl w' D' size v n xs := by
  obtain ⟨A, cap, e, h1, h2, h3⟩ := h
  exact ⟨A, cap, e, h1, h2, (h3.keep hk).mono hD⟩
theorem Sl.mono (h : Sl w D size v n xs) (hD : ∀ k, D k → D' k) : Sl w D' size v n xs := h.keep (fun _ _ _ => rfl) hD
theorem Sl.nil : Sl w D size (.slice none 0 0) 0 [] := ⟨none, 0, rfl, Nat.le_refl _, fun _ => rfl, Rd.none_ _⟩
theorem Sl.of_own {base : Nat} {e : TypeId} (h : w.ownsRow base e size v n xs) : Sl w (fun b => base ≤ b ∧ b < w.heap.size) size v n xs := by
  have h' := h
  rcases h.2 with ⟨rfl, rfl⟩ | ⟨g, cap, cur, rfl, hg, hh, hn, _⟩
  · exact ⟨none, 0, rfl, Nat.le_refl _, fun _ => rfl, Rd.of_own h'⟩
  · exact ⟨_, cap, rfl, hn, (fun e => by cases e), Rd.of_own h'⟩
end
def Row (w : World) (g : Nat) (v : Value) (xs : List Value) : Prop :=
  ∃ A cap, v = .slice A xs.length cap ∧ xs.length ≤ cap ∧ (A = none → cap = 0) ∧ (0 < xs.length → A = some ⟨g, 0, none⟩ ∧ ∃ (t : TypeId) (cur : Array Value), Blk w g t cur ∧ ∀ (j : Nat) (u : Value), xs[j]? = some u → cur[j]? = some u)
structure Pl where
  b : Nat
  t : TypeId
  pre : List Value
  post : List Value
  off : Nat
  gm : Nat
  gs : Nat
  fx : Nat → Prop
def Pl.O (P : Pl) (k : Nat) : Prop := k = P.b ∨ k = P.gm ∨ k = P.gs
def Pl.D (P : Pl) (w : World) (k : Nat) : Prop := k < w.heap.size ∧ ¬ (k = P.b ∨ k = P.gm ∨ k = P.gs ∨ P.fx k)
def Pl.E (P : Pl) (w : World) (k : Nat) : Prop := k < w.heap.size ∧ ¬ P.O k
theorem Pl.D.e {P : Pl} {w : World} {k : Nat} (h : P.D w k) : P.E w k := ⟨h.1, fun ho => h.2 (ho.elim .inl fun ho => ho.elim (fun e => .inr (.inl e)) fun e => .inr (.inr (.inl e)))⟩
def mcells (M : Mach) (vm vs vc vi vo : Value) : List Value :=
  .int .i64 M.pc :: .int .i64 M.dir :: (intCells M.r ++ [vm, vs, vc, .int .i64 M.fp, .int .i64 M.sb, vi, vo])
def SvRd (w : World) (D : Nat → Prop) (sv : List Value) (ss : List (List Int)) : Prop :=
  sv.length = ss.length ∧ ∀ k, k < ss.length → ∃ u, sv[k]? = some u ∧ Sl w D 1 u (ss.getD k []).length (intCells (ss.getD k []))
theorem SvRd.keep {w w' : World} {D D' : Nat → Prop} {sv : List Value} {ss : List (List Int)} (h : SvRd w D sv ss) (hk : ∀ b o, D b → w'.cell? ⟨b, o, none⟩ = w.cell? ⟨b, o, none⟩) (hD : ∀ k, D k → D' k) : SvRd w' D' sv ss :=
  ⟨h.1, fun k hk' => let ⟨u, h1, h2⟩ := h.2 k hk'; ⟨u, h1, h2.keep hk hD⟩⟩
def Lists (w : World) (D : Nat → Prop) (M : Mach) (vc vi vo : Value) (sv : List Value) : Prop :=
  SvRd w D sv M.s ∧ Sl w D 2 vc M.calls.length (actCells M.calls) ∧ Sl w D 1 vi M.inp.length (intCells M.inp) ∧ Sl w D 1 vo M.out.length (intCells M.out)
theorem Lists.keep {w w' : World} {D D' : Nat → Prop} {M : Mach} {vc vi vo : Value} {sv : List Value} (h : Lists w D M vc vi vo sv) (hk : ∀ b o, D b → w'.cell? ⟨b, o, none⟩ = w.cell? ⟨b, o, none⟩) (hD : ∀ k, D k → D' k) : Lists w' D' M vc vi vo sv :=
  ⟨h.1.keep hk hD, h.2.1.keep hk hD, h.2.2.1.keep hk hD, h.2.2.2.keep hk hD⟩
structure MOn (w : World) (P : Pl) (M : Mach) (vm vs vc vi vo : Value) (sv : List Value) : Prop where
  hoff : P.pre.length = P.off
  rl : M.r.length = 16
  blk : Blk w P.b P.t (P.pre ++ mcells M vm vs vc vi vo ++ P.post).toArray
  m : Row w P.gm vm (intCells M.m)
  s : Row w P.gs vs sv
  gm : P.gm < w.heap.size
  gs : P.gs < w.heap.size
  am : 0 < M.m.length → P.gm ≠ P.b ∧ P.gm ≠ P.gs
  as_ : 0 < M.s.length → P.gs ≠ P.b
  l : Lists w (P.D w) M vc vi vo sv
  fx : ∀ k, P.fx k → k < w.heap.size
def MAt (w : World) (P : Pl) (M : Mach) : Prop := ∃ vm vs vc vi vo sv, MOn w P M vm vs vc vi vo sv
theorem mc_get {M : Mach} {vm vs vc vi vo : Value} (hr : M.r.length = 16) : (mcells M vm vs vc vi vo)[0]? = some (.int .i64 M.pc) ∧ (mcells M vm vs vc vi vo)[1]? = some (.int .i64 M.dir) ∧
    (∀ k, k < 16 → (mcells M vm vs vc vi vo)[2 + k]? = some (.int .i64 (M.r.getD k 0))) ∧ (mcells M vm vs vc vi vo)[18]? = some vm ∧ (mcells M vm vs vc vi vo)[19]? = some vs ∧ (mcells M vm vs vc vi vo)[20]? = some vc ∧
    (mcells M vm vs vc vi vo)[21]? = some (.int .i64 M.fp) ∧ (mcells M vm vs vc vi vo)[22]? = some (.int .i64 M.sb) ∧ (mcells M vm vs vc vi vo)[23]? = some vi ∧ (mcells M vm vs vc vi vo)[24]? = some vo ∧ (mcells M vm vs vc vi vo).length = 25 := by
  have hl : (intCells M.r).length = 16 := by rw [intCells_length, hr]
  have tail : ∀ k, k < 7 → (mcells M vm vs vc vi vo)[18 + k]? = [vm, vs, vc, .int .i64 M.fp, .int .i64 M.sb, vi, vo][k]? := by
    intro k hk
    unfold mcells
    rw [show 18 + k = 16 + k + 1 + 1 by omega, List.getElem?_cons_succ, List.getElem?_cons_succ, List.getElem?_append_right (by omega), hl, Nat.add_sub_cancel_left]
  refine ⟨rfl, rfl, fun k hk => ?_, tail 0 (by decide), tail 1 (by decide), tail 2 (by decide), tail 3 (by decide), tail 4 (by decide), tail 5 (by decide), tail 6 (by decide), ?_⟩
  · unfold mcells
    rw [show 2 + k = k + 1 + 1 by omega, List.getElem?_cons_succ, List.getElem?_cons_succ, List.getElem?_append_left (by omega), intCells_get _ _ (by omega)]
  · simp [mcells, hl]
theorem mid_get (pre cs post : List Value) (j : Nat) (h : j < cs.length) : (pre ++ cs ++ post).toArray[pre.length + j]? = cs[j]? := by
  simp only [List.getElem?_toArray]
  rw [List.getElem?_append_left (by simp; omega), List.getElem?_append_right (by omega), Nat.add_sub_cancel_left]
theorem mid_set (pre cs post : List Value) (j : Nat) (u : Value) (h : j < cs.length) : (pre ++ cs ++ post).toArray.setIfInBounds (pre.length + j) u = (pre ++ cs.set j u ++ post).toArray := by
  rw [List.setIfInBounds_toArray]
  congr 1
  rw [List.set_append_left _ _ (by simp; omega), List.set_append_right _ _ (by omega), Nat.add_sub_cancel_left]
section
variable {w w' : World} {P : Pl} {M : Mach} {vm vs vc vi vo : Value} {sv : List Value}
theorem MOn.cellAt (h : MOn w P M vm vs vc vi vo sv) (j : Nat) (hj : j < 25) : w.cell? ⟨P.b, P.off + j, none⟩ = (mcells M vm vs vc vi vo)[j]? := by
  rw [h.blk.cell, ← h.hoff, mid_get _ _ _ _ (by have := (mc_get (vm := vm) (vs := vs) (vc := vc) (vi := vi) (vo := vo) h.rl).2.2.2.2.2.2.2.2.2.2; omega)]
theorem MOn.c0 (h : MOn w P M vm vs vc vi vo sv) : w.cell? ⟨P.b, P.off, none⟩ = some (.int .i64 M.pc) := by
  have := h.cellAt 0 (by decide); rw [Nat.add_zero] at this; rw [this]; rfl
theorem MOn.c1 (h : MOn w P M vm vs vc vi vo sv) : w.cell? ⟨P.b, P.off + 1, none⟩ = some (.int .i64 M.dir) := (h.cellAt 1 (by decide)).trans rfl
theorem MOn.cr (h : MOn w P M vm vs vc vi vo sv) (k : Nat) (hk : k < 16) : w.cell? ⟨P.b, P.off + 2 + k, none⟩ = some (.int .i64 (M.r.getD k 0)) := by
  rw [Nat.add_assoc, h.cellAt (2 + k) (by omega)]; exact (mc_get h.rl).2.2.1 k hk
theorem MOn.c18 (h : MOn w P M vm vs vc vi vo sv) : w.cell? ⟨P.b, P.off + 18, none⟩ = some vm := (h.cellAt 18 (by decide)).trans (mc_get h.rl).2.2.2.1
theorem MOn.c19 (h : MOn w P M vm vs vc vi vo sv) : w.cell? ⟨P.b, P.off + 19, none⟩ = some vs := (h.cellAt 19 (by decide)).trans (mc_get h.rl).2.2.2.2.1
theorem MOn.c20 (h : MOn w P M vm vs vc vi vo sv) : w.cell? ⟨P.b, P.off + 20, none⟩ = some vc := (h.cellAt 20 (by decide)).trans (mc_get h.rl).2.2.2.2.2.1
theorem MOn.c21 (h : MOn w P M vm vs vc vi vo sv) : w.cell? ⟨P.b, P.off + 21, none⟩ = some (.int .i64 M.fp) := (h.cellAt 21 (by decide)).trans (mc_get h.rl).2.2.2.2.2.2.1
theorem MOn.c22 (h : MOn w P M vm vs vc vi vo sv) : w.cell? ⟨P.b, P.off + 22, none⟩ = some (.int .i64 M.sb) := (h.cellAt 22 (by decide)).trans (mc_get h.rl).2.2.2.2.2.2.2.1
theorem MOn.c23 (h : MOn w P M vm vs vc vi vo sv) : w.cell? ⟨P.b, P.off + 23, none⟩ = some vi := (h.cellAt 23 (by decide)).trans (mc_get h.rl).2.2.2.2.2.2.2.2.1
theorem MOn.c24 (h : MOn w P M vm vs vc vi vo sv) : w.cell? ⟨P.b, P.off + 24, none⟩ = some vo := (h.cellAt 24 (by decide)).trans (mc_get h.rl).2.2.2.2.2.2.2.2.2.1
theorem MOn.frozen (h : MOn w P M vm vs vc vi vo sv) (o : Nat) : w.frozen? ⟨P.b, o, none⟩ = false := h.blk.frozen o
theorem MOn.lt (h : MOn w P M vm vs vc vi vo sv) : P.b < w.heap.size := h.blk.lt
theorem Row.keep {g : Nat} {v : Value} {xs : List Value} (h : Row w g v xs) (hb : 0 < xs.length → w'.heap[g]? = w.heap[g]?) : Row w' g v xs := by
  obtain ⟨A, cap, e, h1, h2, h3⟩ := h
  refine ⟨A, cap, e, h1, h2, fun hn => ?_⟩
  obtain ⟨e, t, cur, hB, hc⟩ := h3 hn
  exact ⟨e, t, cur, (hb hn).trans hB, hc⟩
theorem MOn.next (h : MOn w P M vm vs vc vi vo sv) (hb : Below w.heap.size w w') : MOn w' P M vm vs vc vi vo sv :=
  ⟨h.hoff, h.rl, h.blk.next hb, h.m.keep fun _ => hb.block _ h.gm, h.s.keep fun _ => hb.block _ h.gs, Nat.lt_of_lt_of_le h.gm hb.size, Nat.lt_of_lt_of_le h.gs hb.size, h.am, h.as_,
   h.l.keep (fun b o hd => hb.cell (p := ⟨b, o, none⟩) hd.1) fun k hk => ⟨Nat.lt_of_lt_of_le hk.1 hb.size, hk.2⟩, fun k hk => Nat.lt_of_lt_of_le (h.fx k hk) hb.size⟩
theorem MOn.far (h : MOn w P M vm vs vc vi vo sv) {O : Nat → Prop} (hf : Fr O w w') (h1 : ¬ O P.b) (h2 : ¬ O P.gm) (h3 : ¬ O P.gs) (hl : Lists w' (P.D w') M vc vi vo sv) : MOn w' P M vm vs vc vi vo sv :=
  ⟨h.hoff, h.rl, hf.blk h.blk h1, h.m.keep fun _ => hf.block _ h.gm h2, h.s.keep fun _ => hf.block _ h.gs h3, Nat.lt_of_lt_of_le h.gm hf.size, Nat.lt_of_lt_of_le h.gs hf.size, h.am, h.as_, hl, fun k hk => Nat.lt_of_lt_of_le (h.fx k hk) hf.size⟩
theorem MOn.setOwn (h : MOn w P M vm vs vc vi vo sv) (j : Nat) (hj : j < 25) (u : Value) {M' : Mach} {vc' vi' vo' : Value}
    (hc : (mcells M vm vs vc vi vo).set j u = mcells M' vm vs vc' vi' vo') (hr : M'.r.length = 16) (hm : M'.m = M.m) (hs : M'.s = M.s) (hl : Lists w (P.D w) M' vc' vi' vo' sv) :
    MOn (w.setCell ⟨P.b, P.off + j, none⟩ u) P M' vm vs vc' vi' vo' sv := by
  have ne : ∀ g, g ≠ P.b → (w.setCell ⟨P.b, P.off + j, none⟩ u).heap[g]? = w.heap[g]? := fun g hg => Below.heap_setCell w ⟨P.b, P.off + j, none⟩ u g hg
  have hsz : (w.setCell ⟨P.b, P.off + j, none⟩ u).heap.size = w.heap.size := by simp [World.setCell]
  refine ⟨h.hoff, hr, ?_, ?_, ?_, by rw [hsz]; exact h.gm, by rw [hsz]; exact h.gs, by rw [hm]; exact h.am, by rw [hs]; exact h.as_, ?_, fun k hk => by rw [hsz]; exact h.fx k hk⟩
  · have := h.blk.set_ (P.off + j) u
    rw [← h.hoff, mid_set _ _ _ _ _ (by have := (mc_get (vm := vm) (vs := vs) (vc := vc) (vi := vi) (vo := vo) h.rl).2.2.2.2.2.2.2.2.2.2; omega), hc] at this
    rw [← h.hoff]; exact this
  · rw [hm]; exact h.m.keep fun hn => ne _ (h.am (by rw [intCells_length] at hn; exact hn)).1
  · refine h.s.keep fun hn => ne _ (h.as_ ?_)
    rw [h.l.1.1] at hn; exact hn
  · refine hl.keep (fun b o hd => ?_) fun k hk => ⟨by rw [hsz]; exact hk.1, hk.2⟩
    exact World.cell?_of_block (ne b fun e => hd.2 (.inl e))
theorem tail_set (M : Mach) (vm vs vc vi vo u : Value) (hr : M.r.length = 16) (k : Nat) : (mcells M vm vs vc vi vo).set (18 + k) u = .int .i64 M.pc :: .int .i64 M.dir :: (intCells M.r ++ [vm, vs, vc, .int .i64 M.fp, .int .i64 M.sb, vi, vo].set k u) := by
  unfold mcells
  rw [show 18 + k = 16 + k + 1 + 1 by omega, List.set_cons_succ, List.set_cons_succ, List.set_append_right _ _ (by rw [intCells_length, hr]; omega), intCells_length, hr, Nat.add_sub_cancel_left]
theorem MOn.setIn (h : MOn w P M vm vs vc vi vo sv) (u : Value) (l : List Int) (hu : Sl w (P.D w) 1 u l.length (intCells l)) : MOn (w.setCell ⟨P.b, P.off + 23, none⟩ u) P (M.setIn l) vm vs vc u vo sv :=
  h.setOwn 23 (by decide) u (M' := M.setIn l) (tail_set M vm vs vc vi vo _ h.rl 5) h.rl rfl rfl ⟨h.l.1, h.l.2.1, hu, h.l.2.2.2⟩
theorem MOn.setOut (h : MOn w P M vm vs vc vi vo sv) (u : Value) (l : List Int) (hu : Sl w (P.D w) 1 u l.length (intCells l)) : MOn (w.setCell ⟨P.b, P.off + 24, none⟩ u) P (M.setOut l) vm vs vc vi u sv :=
  h.setOwn 24 (by decide) u (M' := M.setOut l) (tail_set M vm vs vc vi vo _ h.rl 6) h.rl rfl rfl ⟨h.l.1, h.l.2.1, h.l.2.2.1, hu⟩
theorem Row.set {g : Nat} {v : Value} {xs : List Value} (h : Row w g v xs) (k : Nat) (hk : k < xs.length) (u : Value) : Row (w.setCell ⟨g, k, none⟩ u) g v (xs.set k u) := by
  obtain ⟨A, cap, e, h1, h2, h3⟩ := h
  refine ⟨A, cap, by simpa using e, by simpa using h1, h2, fun hn => ?_⟩
  obtain ⟨e, t, cur, hB, hc⟩ := h3 (by simpa using hn)
  refine ⟨e, t, _, hB.set_ k u, fun j x hx => ?_⟩
  have hkc : k < cur.size := by
    have := hc k _ (List.getElem?_eq_getElem hk)
    rcases Nat.lt_or_ge k cur.size with h | h
    · exact h
    · rw [Array.getElem?_eq_none h] at this; cases this
  rw [List.getElem?_set] at hx
  rw [Array.getElem?_setIfInBounds]
  split at hx
  · rename_i e; subst e
    rw [if_pos rfl, if_pos hkc]
    simpa [hk] using hx
  · rename_i e
    rw [if_neg e]
    exact hc j x hx
theorem Row.form {g : Nat} {v : Value} {xs : List Value} (h : Row w g v xs) (hn : 0 < xs.length) : ∃ cap, v = .slice (some ⟨g, 0, none⟩) xs.length cap ∧ xs.length ≤ cap ∧ (∀ j u, xs[j]? = some u → w.cell? ⟨g, j, none⟩ = some u) ∧ ∀ j, w.frozen? ⟨g, j, none⟩ = false := by
  obtain ⟨A, cap, e, h1, h2, h3⟩ := h
  obtain ⟨rfl, t, cur, hB, hc⟩ := h3 hn
  exact ⟨cap, e, h1, fun j u hu => (hB.cell j).trans (hc j u hu), fun j => hB.frozen j⟩
end
structure MBd (M : Mach) : Prop where
  f0 : 0 ≤ M.fp
  f1 : M.fp ≤ 16384
  s0 : 0 ≤ M.sb
  s1 : M.sb ≤ 16384
  ml : M.m.length ≤ 16384
  sl : M.s.length ≤ 16384
  cl : M.calls.length ≤ 100
  il : M.inp.length ≤ 4096
  ol : M.out.length ≤ 4096
  st : ∀ l ∈ M.s, l.length ≤ 17592186044400
theorem MBd.stk {M : Mach} (h : MBd M) (k : Int) : (M.stk k).length ≤ 17592186044400 := by
  unfold Mach.stk
  rw [List.getD_eq_getElem?_getD]
  cases e : M.s[k.toNat]? with
  | none => simp
  | some l => exact h.st l (List.mem_of_getElem? e)
theorem MOn.mat {w : World} {P : Pl} {M : Mach} {vm vs vc vi vo : Value} {sv : List Value} (h : MOn w P M vm vs vc vi vo sv) : MAt w P M := ⟨vm, vs, vc, vi, vo, sv, h⟩
theorem MAt.next {w w' : World} {P : Pl} {M : Mach} (h : MAt w P M) (hb : Below w.heap.size w w') : MAt w' P M := by
  obtain ⟨vm, vs, vc, vi, vo, sv, h⟩ := h; exact (h.next hb).mat
theorem MOn.sv {w : World} {P : Pl} {M : Mach} {vm vs vc vi vo : Value} {sv : List Value} (h : MOn w P M vm vs vc vi vo sv) (k : Nat) (hk : k < M.s.length) :
    ∃ n cap, vs = .slice (some ⟨P.gs, 0, none⟩) n cap ∧ n = M.s.length ∧ ∃ A c, w.cell? ⟨P.gs, k, none⟩ = some (.slice A (M.stk k).length c) ∧ (M.stk k).length ≤ c ∧ (A = none → c = 0) ∧ Rd w (P.D w) 1 A (M.stk k).length (intCells (M.stk k)) ∧ sv[k]? = some (.slice A (M.stk k).length c) := by
  obtain ⟨cap, e, _, hc, _⟩ := h.s.form (by rw [h.l.1.1]; omega)
  rw [h.l.1.1] at e
  obtain ⟨u, hu, A, c, rfl, h1, h2, h3⟩ := h.l.1.2 k hk
  exact ⟨_, cap, e, rfl, A, c, hc k _ hu, h1, h2, h3, hu⟩
theorem intCells_dropLast (l : List Int) : intCells l.dropLast = (intCells l).take (l.length - 1) := by
  rw [List.dropLast_eq_take, intCells, List.map_take]; rfl
theorem Rd.take {w : World} {D : Nat → Prop} {A : Option Addr} {n m : Nat} {xs : List Value} (h : Rd w D 1 A n xs) (hm : m ≤ n) : Rd w D 1 A m (xs.take m) := by
  have hl := h.1
  refine ⟨by simp; omega, fun hm0 => ?_⟩
  obtain ⟨b, off, e, hd, hc⟩ := h.2 (by omega)
  refine ⟨b, off, e, hd, fun j u hu => hc j u ?_⟩
  rw [List.getElem?_take] at hu
  split at hu
  · exact hu
  · cases hu
theorem Sl.pop {w : World} {D : Nat → Prop} {A : Option Addr} {c m : Nat} {l : List Int} (hl : l.length = m + 1) (hc : m + 1 ≤ c) (hA : A = none → c = 0) (h : Rd w D 1 A (m + 1) (intCells l)) : Sl w D 1 (.slice A m c) l.dropLast.length (intCells l.dropLast) := by
  have e : l.dropLast.length = m := by simp [hl]
  rw [e]
  refine ⟨A, c, rfl, by omega, hA, ?_⟩
  rw [intCells_dropLast, hl]
  exact h.take (by omega)
theorem MOn.heap {w w' : World} {P : Pl} {M : Mach} {vm vs vc vi vo : Value} {sv : List Value} (h : MOn w P M vm vs vc vi vo sv) (e : w'.heap = w.heap) : MOn w' P M vm vs vc vi vo sv := by
  have c : ∀ b o, w'.cell? ⟨b, o, none⟩ = w.cell? ⟨b, o, none⟩ := fun b o => World.cell?_of_block (by rw [e])
  exact ⟨h.hoff, h.rl, by unfold Blk; rw [e]; exact h.blk, h.m.keep fun _ => by rw [e], h.s.keep fun _ => by rw [e], by rw [e]; exact h.gm, by rw [e]; exact h.gs, h.am, h.as_, h.l.keep (fun b o _ => c b o) fun k hk => ⟨by rw [e]; exact hk.1, hk.2⟩, fun k hk => by rw [e]; exact h.fx k hk⟩
theorem MOn.fresh {w w' : World} {P : Pl} {M : Mach} {vm vs vc vi vo : Value} {sv : List Value} (h : MOn w P M vm vs vc vi vo sv) {k : Nat} (h1 : w.heap.size ≤ k) (h2 : k < w'.heap.size) : P.D w' k :=
  ⟨h2, fun ho => by have a := h.lt; have b := h.gm; have c := h.gs; rcases ho with e | e | e | e <;> first | omega | (have := h.fx k e; omega)⟩
theorem MOn.foreign {w w' : World} {P : Pl} {M : Mach} {vm vs vc vi vo : Value} {sv : List Value} (h : MOn w P M vm vs vc vi vo sv) (hb : Below w.heap.size w w') {fx : Nat → Prop} (h1 : ∀ k, fx k → P.fx k ∨ w.heap.size ≤ k) (h2 : ∀ k, fx k → k < w'.heap.size) : MOn w' { P with fx := fx } M vm vs vc vi vo sv := by
  have h' := h.next hb
  refine ⟨h'.hoff, h'.rl, h'.blk, h'.m, h'.s, h'.gm, h'.gs, h'.am, h'.as_, ?_, h2⟩
  refine h.l.keep (fun b o hd => hb.cell (p := ⟨b, o, none⟩) hd.1) fun k hk => ⟨Nat.lt_of_lt_of_le hk.1 hb.size, fun ho => ?_⟩
  rcases ho with e | e | e | e
  · exact hk.2 (.inl e)
  · exact hk.2 (.inr (.inl e))
  · exact hk.2 (.inr (.inr (.inl e)))
  · rcases h1 k e with e | e
    · exact hk.2 (.inr (.inr (.inr e)))
    · have := hk.1; omega
theorem MAt.foreign {w w' : World} {P : Pl} {M : Mach} (h : MAt w P M) (hb : Below w.heap.size w w') {fx : Nat → Prop} (h1 : ∀ k, fx k → P.fx k ∨ w.heap.size ≤ k) (h2 : ∀ k, fx k → k < w'.heap.size) : MAt w' { P with fx := fx } M := by
  obtain ⟨vm, vs, vc, vi, vo, sv, h⟩ := h; exact (h.foreign hb h1 h2).mat
theorem MOn.other {w w' : World} {P : Pl} {M : Mach} {vm vs vc vi vo : Value} {sv : List Value} (h : MOn w P M vm vs vc vi vo sv) {O : Nat → Prop} (hf : Fr O w w') (h1 : ¬ O P.b) (h2 : ¬ O P.gm) (h3 : ¬ O P.gs) (hx : ∀ k, O k → P.fx k) : MOn w' P M vm vs vc vi vo sv :=
  h.far hf h1 h2 h3 (h.l.keep (fun b o hd => hf.cell hd.1 (fun ho => hd.2 (.inr (.inr (.inr (hx b ho))))) o) fun k hk => ⟨Nat.lt_of_lt_of_le hk.1 hf.size, hk.2⟩)
theorem MAt.other {w w' : World} {P : Pl} {M : Mach} (h : MAt w P M) {O : Nat → Prop} (hf : Fr O w w') (h1 : ¬ O P.b) (h2 : ¬ O P.gm) (h3 : ¬ O P.gs) (hx : ∀ k, O k → P.fx k) : MAt w' P M := by
  obtain ⟨vm, vs, vc, vi, vo, sv, h⟩ := h; exact (h.other hf h1 h2 h3 hx).mat
structure MLn (M : Mach) : Prop where
  ml : M.m.length ≤ 16384
  sl : M.s.length ≤ 16384
  cl : M.calls.length ≤ 10000
  il : M.inp.length ≤ 100000
  ol : M.out.length ≤ 100000
  st : ∀ l ∈ M.s, l.length ≤ 17592186044400
theorem MBd.ln {M : Mach} (h : MBd M) : MLn M := ⟨h.ml, h.sl, Nat.le_trans h.cl (by decide), Nat.le_trans h.il (by decide), Nat.le_trans h.ol (by decide), h.st⟩
theorem MOn.rg {w : World} {P : Pl} {M : Mach} {vm vs vc vi vo : Value} {sv : List Value} (h : MOn w P M vm vs vc vi vo sv) (k : Nat) (hk : k < 16) :
    w.cell? ⟨P.b, P.off + 2 + k, none⟩ = some (.int .i64 (M.reg k)) ∧ w.frozen? ⟨P.b, P.off + 2 + k, none⟩ = false ∧ (0 : Int) ≤ (k : Int) ∧ (k : Int) < 16 :=
  ⟨h.cr k hk, h.frozen _, by omega, by omega⟩
end Bk
