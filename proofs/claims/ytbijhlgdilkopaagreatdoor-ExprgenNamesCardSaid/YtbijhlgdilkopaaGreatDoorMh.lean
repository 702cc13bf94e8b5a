/- Several texts in one: Mach Wide MachB FitP. -/
import Derived.Test.YtbijhlgdilkopaaGreatDoorBa
import Derived.Test.YtbijhlgdilkopaaGreatDoorPa
import Derived.OwnWalk
import Derived.Deep.RegionLawGrows
import Derived.Deep.DeepAppendWide
import Derived.Deep.Upon
set_option linter.unusedVariables false
set_option linter.unusedSimpArgs false
/- Machines in memory: how a machine lies in a block; what a step may change. -/
set_option linter.unusedVariables false
namespace Bk
open Go Go.RowKit

def intCells (l : List Int) : List Value := l.map (.int .i64 ·)
def actCells (l : List (Int × Bool)) : List Value := l.flatMap fun a => [.int .i64 a.1, .bool a.2]
theorem intCells_length (l : List Int) : (intCells l).length = l.length := by simp [intCells]
theorem intCells_get (l : List Int) (k : Nat) (h : k < l.length) : (intCells l)[k]? = some (.int .i64 (l.getD k 0)) := by
  simp [intCells, List.getD_eq_getElem?_getD, h]
theorem intCells_append (l r : List Int) : intCells (l ++ r) = intCells l ++ intCells r := by simp [intCells]
theorem actCells_length (l : List (Int × Bool)) : (actCells l).length = l.length * 2 := by
  induction l with
  | nil => rfl
  | cons a l ih => simp [actCells] at ih ⊢; omega
theorem actCells_append (l r : List (Int × Bool)) : actCells (l ++ r) = actCells l ++ actCells r := by simp [actCells]
theorem actCells_get (l : List (Int × Bool)) : ∀ k, k < l.length → (actCells l)[k * 2]? = some (.int .i64 (l.getD k (0, false)).1) ∧ (actCells l)[k * 2 + 1]? = some (.bool (l.getD k (0, false)).2) := by
  induction l with
  | nil => intro k h; simp at h
  | cons a l ih =>
    intro k h
    cases k with
    | zero => exact ⟨rfl, rfl⟩
    | succ k =>
      have := ih k (by simpa using h)
      have e : (k + 1) * 2 = k * 2 + 1 + 1 := by omega
      rw [e]
      exact this

/-- What may have changed: the blocks in O; everything else is as it was. -/
structure Fr (O : Nat → Prop) (w w' : World) : Prop where
  os : w'.os = w.os
  tape : w'.tape = w.tape
  output : w'.output = w.output
  size : w.heap.size ≤ w'.heap.size
  block : ∀ k, k < w.heap.size → ¬ O k → w'.heap[k]? = w.heap[k]?
section
variable {O : Nat → Prop} {w w' w'' : World}
theorem Fr.refl (O : Nat → Prop) (w : World) : Fr O w w := ⟨rfl, rfl, rfl, Nat.le_refl _, fun _ _ _ => rfl⟩
theorem Fr.trans (h : Fr O w w') (h' : Fr O w' w'') : Fr O w w'' :=
  ⟨h'.os.trans h.os, h'.tape.trans h.tape, h'.output.trans h.output, Nat.le_trans h.size h'.size, fun k hk ho => (h'.block k (Nat.lt_of_lt_of_le hk h.size) ho).trans (h.block k hk ho)⟩
theorem Fr.next (h : Fr O w w') (hb : Below w'.heap.size w' w'') : Fr O w w'' :=
  h.trans ⟨hb.os, hb.tape, hb.output, hb.size, fun k hk _ => hb.block k hk⟩
theorem Fr.of (hb : Below w.heap.size w w') : Fr O w w' := (Fr.refl O w).next hb
theorem Fr.drew (h : Fr O w w') : Fr O w w'.drew := ⟨h.os, h.tape, h.output, h.size, h.block⟩
theorem Fr.drewN (h : Fr O w w') (n : Nat) : Fr O w (w'.drewN n) := ⟨h.os, h.tape, h.output, h.size, h.block⟩
theorem Fr.alloc (h : Fr O w w') (o : Obj) : Fr O w (w'.alloc o) := h.next ((Below.refl _ _).alloc (Nat.le_refl _) _)
theorem Fr.set (h : Fr O w w') {p : Addr} (hp : O p.block) (u : Value) : Fr O w (w'.setCell p u) :=
  h.trans ⟨rfl, rfl, rfl, by simp [World.setCell], fun k hk ho => Below.heap_setCell _ _ _ _ (fun e => ho (e ▸ hp))⟩
theorem Fr.grown {row : Option Nat} (h : Fr O w w') (hg : w'.grownBy w'' row) (hr : ∀ k, row = some k → w'.heap.size ≤ k) : Fr O w w'' :=
  h.next ((Below.refl _ _).grown hg (Nat.le_refl _) hr)
theorem Fr.below (h : Fr O w w') {B : Nat} (hB : B ≤ w.heap.size) (hO : ∀ k, O k → B ≤ k) : Below B w w' :=
  ⟨h.os, h.tape, h.output, h.size, fun k hk => h.block k (by omega) (fun ho => by have := hO k ho; omega)⟩
theorem Fr.cell (h : Fr O w w') {b : Nat} (hb : b < w.heap.size) (ho : ¬ O b) (o : Nat) : w'.cell? ⟨b, o, none⟩ = w.cell? ⟨b, o, none⟩ := World.cell?_of_block (h.block b hb ho)
theorem Fr.mono {O' : Nat → Prop} (h : Fr O w w') (hO : ∀ k, O k → O' k) : Fr O' w w' := ⟨h.os, h.tape, h.output, h.size, fun k hk ho => h.block k hk (fun h => ho (hO k h))⟩
theorem Fr.blk (h : Fr O w w') {g : Nat} {t : TypeId} {cs : Array Value} (hb : Blk w g t cs) (ho : ¬ O g) : Blk w' g t cs := (h.block g hb.lt ho).trans hb
end


/-- A slice value that reads as the cells xs: n elements of 'size' cells, in blocks of D. -/
def Sl (w : World) (D : Nat → Prop) (size : Nat) (v : Value) (n : Nat) (xs : List Value) : Prop :=
  ∃ A cap, v = .slice A n cap ∧ n ≤ cap ∧ (A = none → cap = 0) ∧ Rd w D size A n xs
section
variable {w w' : World} {D D' : Nat → Prop} {size n : Nat} {v : Value} {xs : List Value}
theorem Sl.keep (h : Sl w D size v n xs) (hk : ∀ b o, D b → w'.cell? ⟨b, o, none⟩ = w.cell? ⟨b, o, none⟩) (hD : ∀ k, D k → D' k) : Sl w' D' size v n xs := by
  obtain ⟨A, cap, e, h1, h2, h3⟩ := h
  exact ⟨A, cap, e, h1, h2, (h3.keep hk).mono hD⟩
theorem Sl.mono (h : Sl w D size v n xs) (hD : ∀ k, D k → D' k) : Sl w D' size v n xs := h.keep (fun _ _ _ => rfl) hD
theorem Sl.nil : Sl w D size (.slice none 0 0) 0 [] := ⟨none, 0, rfl, Nat.le_refl _, fun _ => rfl, Rd.none_ _⟩
theorem Sl.of_own {base : Nat} {e : TypeId} (h : w.ownsRow base e size v n xs) : Sl w (fun b => base ≤ b ∧ b < w.heap.size) size v n xs := by
  have h' := h
  rcases h.2 with ⟨rfl, rfl⟩ | ⟨g, cap, cur, rfl, hg, hh, hn, _⟩
  · exact ⟨none, 0, rfl, Nat.le_refl _, fun _ => rfl, Rd.of_own h'⟩
  · exact ⟨_, cap, rfl, hn, (fun e => by cases e), Rd.of_own h'⟩
end

/-- A slice in a block of the machine's own: all its cells are known. -/
def Row (w : World) (g : Nat) (v : Value) (xs : List Value) : Prop :=
  ∃ A cap, v = .slice A xs.length cap ∧ xs.length ≤ cap ∧ (A = none → cap = 0) ∧ (0 < xs.length → A = some ⟨g, 0, none⟩ ∧ ∃ (t : TypeId) (cur : Array Value), Blk w g t cur ∧ ∀ (j : Nat) (u : Value), xs[j]? = some u → cur[j]? = some u)

/-- Where a machine lies: its block (of type t; what lies before and behind it), the block of its cells, the block of its stacks. -/
structure Pl where
  b : Nat
  t : TypeId
  pre : List Value
  post : List Value
  off : Nat
  gm : Nat
  gs : Nat
  fx : Nat → Prop
/-- The machine's own blocks. -/
def Pl.O (P : Pl) (k : Nat) : Prop := k = P.b ∨ k = P.gm ∨ k = P.gs
/-- Where its lists may lie: in no block of its own, in none of the foreign blocks fx. -/
def Pl.D (P : Pl) (w : World) (k : Nat) : Prop := k < w.heap.size ∧ ¬ (k = P.b ∨ k = P.gm ∨ k = P.gs ∨ P.fx k)
def Pl.E (P : Pl) (w : World) (k : Nat) : Prop := k < w.heap.size ∧ ¬ P.O k
theorem Pl.D.e {P : Pl} {w : World} {k : Nat} (h : P.D w k) : P.E w k := ⟨h.1, fun ho => h.2 (ho.elim .inl fun ho => ho.elim (fun e => .inr (.inl e)) fun e => .inr (.inr (.inl e)))⟩

def mcells (M : Mach) (vm vs vc vi vo : Value) : List Value :=
  .int .i64 M.pc :: .int .i64 M.dir :: (intCells M.r ++ [vm, vs, vc, .int .i64 M.fp, .int .i64 M.sb, vi, vo])

/-- The values of the stacks. -/
def SvRd (w : World) (D : Nat → Prop) (sv : List Value) (ss : List (List Int)) : Prop :=
  sv.length = ss.length ∧ ∀ k, k < ss.length → ∃ u, sv[k]? = some u ∧ Sl w D 1 u (ss.getD k []).length (intCells (ss.getD k []))
theorem SvRd.keep {w w' : World} {D D' : Nat → Prop} {sv : List Value} {ss : List (List Int)} (h : SvRd w D sv ss) (hk : ∀ b o, D b → w'.cell? ⟨b, o, none⟩ = w.cell? ⟨b, o, none⟩) (hD : ∀ k, D k → D' k) : SvRd w' D' sv ss :=
  ⟨h.1, fun k hk' => let ⟨u, h1, h2⟩ := h.2 k hk'; ⟨u, h1, h2.keep hk hD⟩⟩

/-- The lists that are only read. -/
def Lists (w : World) (D : Nat → Prop) (M : Mach) (vc vi vo : Value) (sv : List Value) : Prop :=
  SvRd w D sv M.s ∧ Sl w D 2 vc M.calls.length (actCells M.calls) ∧ Sl w D 1 vi M.inp.length (intCells M.inp) ∧ Sl w D 1 vo M.out.length (intCells M.out)
theorem Lists.keep {w w' : World} {D D' : Nat → Prop} {M : Mach} {vc vi vo : Value} {sv : List Value} (h : Lists w D M vc vi vo sv) (hk : ∀ b o, D b → w'.cell? ⟨b, o, none⟩ = w.cell? ⟨b, o, none⟩) (hD : ∀ k, D k → D' k) : Lists w' D' M vc vi vo sv :=
  ⟨h.1.keep hk hD, h.2.1.keep hk hD, h.2.2.1.keep hk hD, h.2.2.2.keep hk hD⟩

/-- The machine M lies at P in w; v.. are the values of its lists. -/
structure MOn (w : World) (P : Pl) (M : Mach) (vm vs vc vi vo : Value) (sv : List Value) : Prop where
  hoff : P.pre.length = P.off
  rl : M.r.length = 16
  blk : Blk w P.b P.t (P.pre ++ mcells M vm vs vc vi vo ++ P.post).toArray
  m : Row w P.gm vm (intCells M.m)
  s : Row w P.gs vs sv
  gm : P.gm < w.heap.size
  gs : P.gs < w.heap.size
  am : 0 < M.m.length → P.gm ≠ P.b ∧ P.gm ≠ P.gs
  as_ : 0 < M.s.length → P.gs ≠ P.b
  l : Lists w (P.D w) M vc vi vo sv
  fx : ∀ k, P.fx k → k < w.heap.size

def MAt (w : World) (P : Pl) (M : Mach) : Prop := ∃ vm vs vc vi vo sv, MOn w P M vm vs vc vi vo sv

theorem mc_get {M : Mach} {vm vs vc vi vo : Value} (hr : M.r.length = 16) : (mcells M vm vs vc vi vo)[0]? = some (.int .i64 M.pc) ∧ (mcells M vm vs vc vi vo)[1]? = some (.int .i64 M.dir) ∧
    (∀ k, k < 16 → (mcells M vm vs vc vi vo)[2 + k]? = some (.int .i64 (M.r.getD k 0))) ∧ (mcells M vm vs vc vi vo)[18]? = some vm ∧ (mcells M vm vs vc vi vo)[19]? = some vs ∧ (mcells M vm vs vc vi vo)[20]? = some vc ∧
    (mcells M vm vs vc vi vo)[21]? = some (.int .i64 M.fp) ∧ (mcells M vm vs vc vi vo)[22]? = some (.int .i64 M.sb) ∧ (mcells M vm vs vc vi vo)[23]? = some vi ∧ (mcells M vm vs vc vi vo)[24]? = some vo ∧ (mcells M vm vs vc vi vo).length = 25 := by
  have hl : (intCells M.r).length = 16 := by rw [intCells_length, hr]
  have tail : ∀ k, k < 7 → (mcells M vm vs vc vi vo)[18 + k]? = [vm, vs, vc, .int .i64 M.fp, .int .i64 M.sb, vi, vo][k]? := by
    intro k hk
    unfold mcells
    rw [show 18 + k = 16 + k + 1 + 1 by omega, List.getElem?_cons_succ, List.getElem?_cons_succ, List.getElem?_append_right (by omega), hl, Nat.add_sub_cancel_left]
  refine ⟨rfl, rfl, fun k hk => ?_, tail 0 (by decide), tail 1 (by decide), tail 2 (by decide), tail 3 (by decide), tail 4 (by decide), tail 5 (by decide), tail 6 (by decide), ?_⟩
  · unfold mcells
    rw [show 2 + k = k + 1 + 1 by omega, List.getElem?_cons_succ, List.getElem?_cons_succ, List.getElem?_append_left (by omega), intCells_get _ _ (by omega)]
  · simp [mcells, hl]

theorem mid_get (pre cs post : List Value) (j : Nat) (h : j < cs.length) : (pre ++ cs ++ post).toArray[pre.length + j]? = cs[j]? := by
  simp only [List.getElem?_toArray]
  rw [List.getElem?_append_left (by simp; omega), List.getElem?_append_right (by omega), Nat.add_sub_cancel_left]
theorem mid_set (pre cs post : List Value) (j : Nat) (u : Value) (h : j < cs.length) : (pre ++ cs ++ post).toArray.setIfInBounds (pre.length + j) u = (pre ++ cs.set j u ++ post).toArray := by
  rw [List.setIfInBounds_toArray]
  congr 1
  rw [List.set_append_left _ _ (by simp; omega), List.set_append_right _ _ (by omega), Nat.add_sub_cancel_left]

section
variable {w w' : World} {P : Pl} {M : Mach} {vm vs vc vi vo : Value} {sv : List Value}

theorem MOn.cellAt (h : MOn w P M vm vs vc vi vo sv) (j : Nat) (hj : j < 25) : w.cell? ⟨P.b, P.off + j, none⟩ = (mcells M vm vs vc vi vo)[j]? := by
  rw [h.blk.cell, ← h.hoff, mid_get _ _ _ _ (by have := (mc_get (vm := vm) (vs := vs) (vc := vc) (vi := vi) (vo := vo) h.rl).2.2.2.2.2.2.2.2.2.2; omega)]
theorem MOn.c0 (h : MOn w P M vm vs vc vi vo sv) : w.cell? ⟨P.b, P.off, none⟩ = some (.int .i64 M.pc) := by
  have := h.cellAt 0 (by decide); rw [Nat.add_zero] at this; rw [this]; rfl
theorem MOn.c1 (h : MOn w P M vm vs vc vi vo sv) : w.cell? ⟨P.b, P.off + 1, none⟩ = some (.int .i64 M.dir) := (h.cellAt 1 (by decide)).trans rfl
theorem MOn.cr (h : MOn w P M vm vs vc vi vo sv) (k : Nat) (hk : k < 16) : w.cell? ⟨P.b, P.off + 2 + k, none⟩ = some (.int .i64 (M.r.getD k 0)) := by
  rw [Nat.add_assoc, h.cellAt (2 + k) (by omega)]; exact (mc_get h.rl).2.2.1 k hk
theorem MOn.c18 (h : MOn w P M vm vs vc vi vo sv) : w.cell? ⟨P.b, P.off + 18, none⟩ = some vm := (h.cellAt 18 (by decide)).trans (mc_get h.rl).2.2.2.1
theorem MOn.c19 (h : MOn w P M vm vs vc vi vo sv) : w.cell? ⟨P.b, P.off + 19, none⟩ = some vs := (h.cellAt 19 (by decide)).trans (mc_get h.rl).2.2.2.2.1
theorem MOn.c20 (h : MOn w P M vm vs vc vi vo sv) : w.cell? ⟨P.b, P.off + 20, none⟩ = some vc := (h.cellAt 20 (by decide)).trans (mc_get h.rl).2.2.2.2.2.1
theorem MOn.c21 (h : MOn w P M vm vs vc vi vo sv) : w.cell? ⟨P.b, P.off + 21, none⟩ = some (.int .i64 M.fp) := (h.cellAt 21 (by decide)).trans (mc_get h.rl).2.2.2.2.2.2.1
theorem MOn.c22 (h : MOn w P M vm vs vc vi vo sv) : w.cell? ⟨P.b, P.off + 22, none⟩ = some (.int .i64 M.sb) := (h.cellAt 22 (by decide)).trans (mc_get h.rl).2.2.2.2.2.2.2.1
theorem MOn.c23 (h : MOn w P M vm vs vc vi vo sv) : w.cell? ⟨P.b, P.off + 23, none⟩ = some vi := (h.cellAt 23 (by decide)).trans (mc_get h.rl).2.2.2.2.2.2.2.2.1
theorem MOn.c24 (h : MOn w P M vm vs vc vi vo sv) : w.cell? ⟨P.b, P.off + 24, none⟩ = some vo := (h.cellAt 24 (by decide)).trans (mc_get h.rl).2.2.2.2.2.2.2.2.2.1
theorem MOn.frozen (h : MOn w P M vm vs vc vi vo sv) (o : Nat) : w.frozen? ⟨P.b, o, none⟩ = false := h.blk.frozen o
theorem MOn.lt (h : MOn w P M vm vs vc vi vo sv) : P.b < w.heap.size := h.blk.lt

theorem Row.keep {g : Nat} {v : Value} {xs : List Value} (h : Row w g v xs) (hb : 0 < xs.length → w'.heap[g]? = w.heap[g]?) : Row w' g v xs := by
  obtain ⟨A, cap, e, h1, h2, h3⟩ := h
  refine ⟨A, cap, e, h1, h2, fun hn => ?_⟩
  obtain ⟨e, t, cur, hB, hc⟩ := h3 hn
  exact ⟨e, t, cur, (hb hn).trans hB, hc⟩

/-- A machine lies as it did in a world that has grown. -/
theorem MOn.next (h : MOn w P M vm vs vc vi vo sv) (hb : Below w.heap.size w w') : MOn w' P M vm vs vc vi vo sv :=
  ⟨h.hoff, h.rl, h.blk.next hb, h.m.keep fun _ => hb.block _ h.gm, h.s.keep fun _ => hb.block _ h.gs, Nat.lt_of_lt_of_le h.gm hb.size, Nat.lt_of_lt_of_le h.gs hb.size, h.am, h.as_,
   h.l.keep (fun b o hd => hb.cell (p := ⟨b, o, none⟩) hd.1) fun k hk => ⟨Nat.lt_of_lt_of_le hk.1 hb.size, hk.2⟩, fun k hk => Nat.lt_of_lt_of_le (h.fx k hk) hb.size⟩
/-- .. where other blocks have changed. -/
theorem MOn.far (h : MOn w P M vm vs vc vi vo sv) {O : Nat → Prop} (hf : Fr O w w') (h1 : ¬ O P.b) (h2 : ¬ O P.gm) (h3 : ¬ O P.gs) (hl : Lists w' (P.D w') M vc vi vo sv) : MOn w' P M vm vs vc vi vo sv :=
  ⟨h.hoff, h.rl, hf.blk h.blk h1, h.m.keep fun _ => hf.block _ h.gm h2, h.s.keep fun _ => hf.block _ h.gs h3, Nat.lt_of_lt_of_le h.gm hf.size, Nat.lt_of_lt_of_le h.gs hf.size, h.am, h.as_, hl, fun k hk => Nat.lt_of_lt_of_le (h.fx k hk) hf.size⟩

/-- A store into the machine's own block. -/
theorem MOn.setOwn (h : MOn w P M vm vs vc vi vo sv) (j : Nat) (hj : j < 25) (u : Value) {M' : Mach} {vc' vi' vo' : Value}
    (hc : (mcells M vm vs vc vi vo).set j u = mcells M' vm vs vc' vi' vo') (hr : M'.r.length = 16) (hm : M'.m = M.m) (hs : M'.s = M.s) (hl : Lists w (P.D w) M' vc' vi' vo' sv) :
    MOn (w.setCell ⟨P.b, P.off + j, none⟩ u) P M' vm vs vc' vi' vo' sv := by
  have ne : ∀ g, g ≠ P.b → (w.setCell ⟨P.b, P.off + j, none⟩ u).heap[g]? = w.heap[g]? := fun g hg => Below.heap_setCell w ⟨P.b, P.off + j, none⟩ u g hg
  have hsz : (w.setCell ⟨P.b, P.off + j, none⟩ u).heap.size = w.heap.size := by simp [World.setCell]
  refine ⟨h.hoff, hr, ?_, ?_, ?_, by rw [hsz]; exact h.gm, by rw [hsz]; exact h.gs, by rw [hm]; exact h.am, by rw [hs]; exact h.as_, ?_, fun k hk => by rw [hsz]; exact h.fx k hk⟩
  · have := h.blk.set_ (P.off + j) u
    rw [← h.hoff, mid_set _ _ _ _ _ (by have := (mc_get (vm := vm) (vs := vs) (vc := vc) (vi := vi) (vo := vo) h.rl).2.2.2.2.2.2.2.2.2.2; omega), hc] at this
    rw [← h.hoff]; exact this
  · rw [hm]; exact h.m.keep fun hn => ne _ (h.am (by rw [intCells_length] at hn; exact hn)).1
  · refine h.s.keep fun hn => ne _ (h.as_ ?_)
    rw [h.l.1.1] at hn; exact hn
  · refine hl.keep (fun b o hd => ?_) fun k hk => ⟨by rw [hsz]; exact hk.1, hk.2⟩
    exact World.cell?_of_block (ne b fun e => hd.2 (.inl e))

theorem MOn.setPc (h : MOn w P M vm vs vc vi vo sv) (v : Int) : MOn (w.setCell ⟨P.b, P.off, none⟩ (.int .i64 v)) P { M with pc := v } vm vs vc vi vo sv := by
  have := h.setOwn 0 (by decide) (.int .i64 v) (M' := { M with pc := v }) rfl h.rl rfl rfl h.l
  rwa [Nat.add_zero] at this
theorem MOn.setDir (h : MOn w P M vm vs vc vi vo sv) (v : Int) : MOn (w.setCell ⟨P.b, P.off + 1, none⟩ (.int .i64 v)) P { M with dir := v } vm vs vc vi vo sv :=
  h.setOwn 1 (by decide) (.int .i64 v) (M' := { M with dir := v }) rfl h.rl rfl rfl h.l
theorem MOn.setReg (h : MOn w P M vm vs vc vi vo sv) (k : Nat) (hk : k < 16) (v : Int) : MOn (w.setCell ⟨P.b, P.off + 2 + k, none⟩ (.int .i64 v)) P { M with r := M.r.set k v } vm vs vc vi vo sv := by
  have := h.setOwn (2 + k) (by omega) (.int .i64 v) (M' := { M with r := M.r.set k v }) ?_ (by simp [h.rl]) rfl rfl h.l
  · rwa [← Nat.add_assoc] at this
  · unfold mcells
    rw [show 2 + k = k + 1 + 1 by omega, List.set_cons_succ, List.set_cons_succ, List.set_append_left _ _ (by rw [intCells_length, h.rl]; exact hk)]
    simp [intCells, List.map_set]
theorem tail_set (M : Mach) (vm vs vc vi vo u : Value) (hr : M.r.length = 16) (k : Nat) : (mcells M vm vs vc vi vo).set (18 + k) u = .int .i64 M.pc :: .int .i64 M.dir :: (intCells M.r ++ [vm, vs, vc, .int .i64 M.fp, .int .i64 M.sb, vi, vo].set k u) := by
  unfold mcells
  rw [show 18 + k = 16 + k + 1 + 1 by omega, List.set_cons_succ, List.set_cons_succ, List.set_append_right _ _ (by rw [intCells_length, hr]; omega), intCells_length, hr, Nat.add_sub_cancel_left]
theorem MOn.setFp (h : MOn w P M vm vs vc vi vo sv) (v : Int) : MOn (w.setCell ⟨P.b, P.off + 21, none⟩ (.int .i64 v)) P { M with fp := v } vm vs vc vi vo sv :=
  h.setOwn 21 (by decide) (.int .i64 v) (M' := { M with fp := v }) (tail_set M vm vs vc vi vo _ h.rl 3) h.rl rfl rfl h.l
theorem MOn.setSb (h : MOn w P M vm vs vc vi vo sv) (v : Int) : MOn (w.setCell ⟨P.b, P.off + 22, none⟩ (.int .i64 v)) P { M with sb := v } vm vs vc vi vo sv :=
  h.setOwn 22 (by decide) (.int .i64 v) (M' := { M with sb := v }) (tail_set M vm vs vc vi vo _ h.rl 4) h.rl rfl rfl h.l
theorem MOn.setCalls (h : MOn w P M vm vs vc vi vo sv) (u : Value) (l : List (Int × Bool)) (hu : Sl w (P.D w) 2 u l.length (actCells l)) : MOn (w.setCell ⟨P.b, P.off + 20, none⟩ u) P { M with calls := l } vm vs u vi vo sv :=
  h.setOwn 20 (by decide) u (M' := { M with calls := l }) (tail_set M vm vs vc vi vo _ h.rl 2) h.rl rfl rfl ⟨h.l.1, hu, h.l.2.2.1, h.l.2.2.2⟩
theorem MOn.setIn (h : MOn w P M vm vs vc vi vo sv) (u : Value) (l : List Int) (hu : Sl w (P.D w) 1 u l.length (intCells l)) : MOn (w.setCell ⟨P.b, P.off + 23, none⟩ u) P (M.setIn l) vm vs vc u vo sv :=
  h.setOwn 23 (by decide) u (M' := M.setIn l) (tail_set M vm vs vc vi vo _ h.rl 5) h.rl rfl rfl ⟨h.l.1, h.l.2.1, hu, h.l.2.2.2⟩
theorem MOn.setOut (h : MOn w P M vm vs vc vi vo sv) (u : Value) (l : List Int) (hu : Sl w (P.D w) 1 u l.length (intCells l)) : MOn (w.setCell ⟨P.b, P.off + 24, none⟩ u) P (M.setOut l) vm vs vc vi u sv :=
  h.setOwn 24 (by decide) u (M' := M.setOut l) (tail_set M vm vs vc vi vo _ h.rl 6) h.rl rfl rfl ⟨h.l.1, h.l.2.1, h.l.2.2.1, hu⟩

theorem Row.set {g : Nat} {v : Value} {xs : List Value} (h : Row w g v xs) (k : Nat) (hk : k < xs.length) (u : Value) : Row (w.setCell ⟨g, k, none⟩ u) g v (xs.set k u) := by
  obtain ⟨A, cap, e, h1, h2, h3⟩ := h
  refine ⟨A, cap, by simpa using e, by simpa using h1, h2, fun hn => ?_⟩
  obtain ⟨e, t, cur, hB, hc⟩ := h3 (by simpa using hn)
  refine ⟨e, t, _, hB.set_ k u, fun j x hx => ?_⟩
  have hkc : k < cur.size := by
    have := hc k _ (List.getElem?_eq_getElem hk)
    rcases Nat.lt_or_ge k cur.size with h | h
    · exact h
    · rw [Array.getElem?_eq_none h] at this; cases this
  rw [List.getElem?_set] at hx
  rw [Array.getElem?_setIfInBounds]
  split at hx
  · rename_i e; subst e
    rw [if_pos rfl, if_pos hkc]
    simpa [hk] using hx
  · rename_i e
    rw [if_neg e]
    exact hc j x hx
theorem Row.form {g : Nat} {v : Value} {xs : List Value} (h : Row w g v xs) (hn : 0 < xs.length) : ∃ cap, v = .slice (some ⟨g, 0, none⟩) xs.length cap ∧ xs.length ≤ cap ∧ (∀ j u, xs[j]? = some u → w.cell? ⟨g, j, none⟩ = some u) ∧ ∀ j, w.frozen? ⟨g, j, none⟩ = false := by
  obtain ⟨A, cap, e, h1, h2, h3⟩ := h
  obtain ⟨rfl, t, cur, hB, hc⟩ := h3 hn
  exact ⟨cap, e, h1, fun j u hu => (hB.cell j).trans (hc j u hu), fun j => hB.frozen j⟩

/-- A store into the block of the cells. -/
theorem MOn.setMem (h : MOn w P M vm vs vc vi vo sv) (k : Nat) (hk : k < M.m.length) (v : Int) : MOn (w.setCell ⟨P.gm, k, none⟩ (.int .i64 v)) P (M.setM k v) vm vs vc vi vo sv := by
  have ne : ∀ g, g ≠ P.gm → (w.setCell ⟨P.gm, k, none⟩ (.int .i64 v)).heap[g]? = w.heap[g]? := fun g hg => Below.heap_setCell w ⟨P.gm, k, none⟩ _ g hg
  have hsz : (w.setCell ⟨P.gm, k, none⟩ (.int .i64 v)).heap.size = w.heap.size := by simp [World.setCell]
  have am := h.am (by omega)
  refine ⟨h.hoff, h.rl, (ne _ (Ne.symm am.1)).trans h.blk, ?_, h.s.keep fun hn => ne _ (Ne.symm am.2), by rw [hsz]; exact h.gm, by rw [hsz]; exact h.gs, fun _ => am, h.as_, ?_, fun k hk => by rw [hsz]; exact h.fx k hk⟩
  · have := h.m.set k (by rw [intCells_length]; exact hk) (.int .i64 v)
    have e : (intCells M.m).set k (.int .i64 v) = intCells (M.setM k v).m := by simp [Mach.setM, intCells, List.map_set]
    rw [e] at this; exact this
  · exact h.l.keep (fun b o hd => World.cell?_of_block (ne b fun e => hd.2 (.inr (.inl e)))) fun k hk => ⟨by rw [hsz]; exact hk.1, hk.2⟩
/-- A store into the block of the stacks. -/
theorem MOn.setStk (h : MOn w P M vm vs vc vi vo sv) (k : Nat) (hk : k < M.s.length) (u : Value) (l : List Int) (hu : Sl w (P.D w) 1 u l.length (intCells l)) : MOn (w.setCell ⟨P.gs, k, none⟩ u) P (M.setS k l) vm vs vc vi vo (sv.set k u) := by
  have ne : ∀ g, g ≠ P.gs → (w.setCell ⟨P.gs, k, none⟩ u).heap[g]? = w.heap[g]? := fun g hg => Below.heap_setCell w ⟨P.gs, k, none⟩ _ g hg
  have hsz : (w.setCell ⟨P.gs, k, none⟩ u).heap.size = w.heap.size := by simp [World.setCell]
  have as_ := h.as_ (by omega)
  have keep : ∀ b o, P.D w b → (w.setCell ⟨P.gs, k, none⟩ u).cell? ⟨b, o, none⟩ = w.cell? ⟨b, o, none⟩ := fun b o hd => World.cell?_of_block (ne b fun e => hd.2 (.inr (.inr (.inl e))))
  have dm : ∀ k', P.D w k' → P.D (w.setCell ⟨P.gs, k, none⟩ u) k' := fun k' hk => ⟨by rw [hsz]; exact hk.1, hk.2⟩
  refine ⟨h.hoff, h.rl, (ne _ (Ne.symm as_)).trans h.blk, h.m.keep fun hn => ne _ (h.am (by rw [intCells_length] at hn; exact hn)).2, h.s.set k (by rw [h.l.1.1]; exact hk) u, by rw [hsz]; exact h.gm, by rw [hsz]; exact h.gs, h.am, by simpa [Mach.setS] using h.as_, ?_, fun k hk => by rw [hsz]; exact h.fx k hk⟩
  have L := h.l.keep keep dm
  refine ⟨⟨by simp [Mach.setS, h.l.1.1], fun j hj => ?_⟩, L.2⟩
  have hj' : j < M.s.length := by simpa [Mach.setS] using hj
  by_cases e : k = j
  · subst e
    have e2 : (M.setS k l).s.getD k [] = l := by simp [Mach.setS, List.getD_eq_getElem?_getD, hk]
    rw [e2]
    refine ⟨u, ?_, hu.keep keep dm⟩
    rw [List.getElem?_set, if_pos rfl, if_pos (by rw [h.l.1.1]; exact hk)]
  · have e2 : (M.setS k l).s.getD j [] = M.s.getD j [] := by simp [Mach.setS, List.getD_eq_getElem?_getD, e]
    rw [e2]
    obtain ⟨x, hx, hs⟩ := L.1.2 j hj'
    exact ⟨x, by rw [List.getElem?_set, if_neg e]; exact hx, hs⟩
end
/-- Bounds of a machine: what keeps its sums small. -/
structure MBd (M : Mach) : Prop where
  f0 : 0 ≤ M.fp
  f1 : M.fp ≤ 16384
  s0 : 0 ≤ M.sb
  s1 : M.sb ≤ 16384
  ml : M.m.length ≤ 16384
  sl : M.s.length ≤ 16384
  cl : M.calls.length ≤ 100
  il : M.inp.length ≤ 4096
  ol : M.out.length ≤ 4096
  st : ∀ l ∈ M.s, l.length ≤ 17592186044400
theorem MBd.stk {M : Mach} (h : MBd M) (k : Int) : (M.stk k).length ≤ 17592186044400 := by
  unfold Mach.stk
  rw [List.getD_eq_getElem?_getD]
  cases e : M.s[k.toNat]? with
  | none => simp
  | some l => exact h.st l (List.mem_of_getElem? e)
theorem MOn.mat {w : World} {P : Pl} {M : Mach} {vm vs vc vi vo : Value} {sv : List Value} (h : MOn w P M vm vs vc vi vo sv) : MAt w P M := ⟨vm, vs, vc, vi, vo, sv, h⟩
theorem MAt.next {w w' : World} {P : Pl} {M : Mach} (h : MAt w P M) (hb : Below w.heap.size w w') : MAt w' P M := by
  obtain ⟨vm, vs, vc, vi, vo, sv, h⟩ := h; exact (h.next hb).mat
theorem MOn.sv {w : World} {P : Pl} {M : Mach} {vm vs vc vi vo : Value} {sv : List Value} (h : MOn w P M vm vs vc vi vo sv) (k : Nat) (hk : k < M.s.length) :
    ∃ n cap, vs = .slice (some ⟨P.gs, 0, none⟩) n cap ∧ n = M.s.length ∧ ∃ A c, w.cell? ⟨P.gs, k, none⟩ = some (.slice A (M.stk k).length c) ∧ (M.stk k).length ≤ c ∧ (A = none → c = 0) ∧ Rd w (P.D w) 1 A (M.stk k).length (intCells (M.stk k)) ∧ sv[k]? = some (.slice A (M.stk k).length c) := by
  obtain ⟨cap, e, _, hc, _⟩ := h.s.form (by rw [h.l.1.1]; omega)
  rw [h.l.1.1] at e
  obtain ⟨u, hu, A, c, rfl, h1, h2, h3⟩ := h.l.1.2 k hk
  exact ⟨_, cap, e, rfl, A, c, hc k _ hu, h1, h2, h3, hu⟩
theorem MOn.keep2 {w : World} {P : Pl} {k : Nat} {u : Value} : ∀ b o, P.D w b → (w.setCell ⟨P.gs, k, none⟩ u).cell? ⟨b, o, none⟩ = w.cell? ⟨b, o, none⟩ :=
  fun b o hd => World.cell?_of_block (Below.heap_setCell w ⟨P.gs, k, none⟩ u b fun e => hd.2 (.inr (.inr (.inl e))))
theorem MOn.keep1 {w : World} {P : Pl} {k : Nat} {u : Value} : ∀ b o, P.D w b → (w.setCell ⟨P.b, k, none⟩ u).cell? ⟨b, o, none⟩ = w.cell? ⟨b, o, none⟩ :=
  fun b o hd => World.cell?_of_block (Below.heap_setCell w ⟨P.b, k, none⟩ u b fun e => hd.2 (.inl e))
theorem MOn.dset {w : World} {P : Pl} {p : Addr} {u : Value} : ∀ k, P.D w k → P.D (w.setCell p u) k := fun k h => ⟨by simpa [World.setCell] using h.1, h.2⟩
/-- Two stacks are exchanged. -/
theorem MOn.swapStk {w : World} {P : Pl} {M : Mach} {vm vs vc vi vo : Value} {sv : List Value} (h : MOn w P M vm vs vc vi vo sv) (a b : Nat) (ha : a < M.s.length) (hb : b < M.s.length) {ua ub : Value} (hua : sv[a]? = some ua) (hub : sv[b]? = some ub) :
    MOn ((w.setCell ⟨P.gs, a, none⟩ ub).setCell ⟨P.gs, b, none⟩ ua) P { M with s := (M.s.set a (M.stk b)).set b (M.stk a) } vm vs vc vi vo ((sv.set a ub).set b ua) := by
  obtain ⟨u, hu, hA⟩ := h.l.1.2 a ha
  obtain rfl := Option.some.inj (hu.symm.trans hua)
  obtain ⟨u', hu', hB⟩ := h.l.1.2 b hb
  obtain rfl := Option.some.inj (hu'.symm.trans hub)
  have h1 := h.setStk a ha u' (M.stk b) hB
  exact h1.setStk b (by simpa [Mach.setS] using hb) u (M.stk a) (hA.keep MOn.keep2 MOn.dset)
theorem last_get {l : List Int} {m : Nat} (h : l.length = m + 1) : l.getD m 0 = l.getLastD 0 := by
  rw [List.getLastD_eq_getLast?, List.getLast?_eq_getElem?, List.getD_eq_getElem?_getD, h, Nat.add_sub_cancel]
theorem intCells_dropLast (l : List Int) : intCells l.dropLast = (intCells l).take (l.length - 1) := by
  rw [List.dropLast_eq_take, intCells, List.map_take]; rfl
theorem Rd.take {w : World} {D : Nat → Prop} {A : Option Addr} {n m : Nat} {xs : List Value} (h : Rd w D 1 A n xs) (hm : m ≤ n) : Rd w D 1 A m (xs.take m) := by
  have hl := h.1
  refine ⟨by simp; omega, fun hm0 => ?_⟩
  obtain ⟨b, off, e, hd, hc⟩ := h.2 (by omega)
  refine ⟨b, off, e, hd, fun j u hu => hc j u ?_⟩
  rw [List.getElem?_take] at hu
  split at hu
  · exact hu
  · cases hu
theorem Sl.pop {w : World} {D : Nat → Prop} {A : Option Addr} {c m : Nat} {l : List Int} (hl : l.length = m + 1) (hc : m + 1 ≤ c) (hA : A = none → c = 0) (h : Rd w D 1 A (m + 1) (intCells l)) : Sl w D 1 (.slice A m c) l.dropLast.length (intCells l.dropLast) := by
  have e : l.dropLast.length = m := by simp [hl]
  rw [e]
  refine ⟨A, c, rfl, by omega, hA, ?_⟩
  rw [intCells_dropLast, hl]
  exact h.take (by omega)
/-- A machine lies in a world by the world's memory alone. -/
theorem MOn.heap {w w' : World} {P : Pl} {M : Mach} {vm vs vc vi vo : Value} {sv : List Value} (h : MOn w P M vm vs vc vi vo sv) (e : w'.heap = w.heap) : MOn w' P M vm vs vc vi vo sv := by
  have c : ∀ b o, w'.cell? ⟨b, o, none⟩ = w.cell? ⟨b, o, none⟩ := fun b o => World.cell?_of_block (by rw [e])
  exact ⟨h.hoff, h.rl, by unfold Blk; rw [e]; exact h.blk, h.m.keep fun _ => by rw [e], h.s.keep fun _ => by rw [e], by rw [e]; exact h.gm, by rw [e]; exact h.gs, h.am, h.as_, h.l.keep (fun b o _ => c b o) fun k hk => ⟨by rw [e]; exact hk.1, hk.2⟩, fun k hk => by rw [e]; exact h.fx k hk⟩
theorem MOn.matE {w w' : World} {P : Pl} {M : Mach} {vm vs vc vi vo : Value} {sv : List Value} (h : MOn w P M vm vs vc vi vo sv) (e : w'.heap = w.heap) : MAt w' P M := (h.heap e).mat
theorem cell_up {w w' : World} {b o : Nat} (hb : b < w.heap.size) (h : Below w.heap.size w w') : w'.cell? ⟨b, o, none⟩ = w.cell? ⟨b, o, none⟩ := h.cell (p := ⟨b, o, none⟩) hb
/-- A new block is not of the machine's own. -/
theorem MOn.fresh {w w' : World} {P : Pl} {M : Mach} {vm vs vc vi vo : Value} {sv : List Value} (h : MOn w P M vm vs vc vi vo sv) {k : Nat} (h1 : w.heap.size ≤ k) (h2 : k < w'.heap.size) : P.D w' k :=
  ⟨h2, fun ho => by have a := h.lt; have b := h.gm; have c := h.gs; rcases ho with e | e | e | e <;> first | omega | (have := h.fx k e; omega)⟩
/-- Fewer foreign blocks; other foreign blocks that hold none of the lists. -/
theorem MOn.foreign {w w' : World} {P : Pl} {M : Mach} {vm vs vc vi vo : Value} {sv : List Value} (h : MOn w P M vm vs vc vi vo sv) (hb : Below w.heap.size w w') {fx : Nat → Prop} (h1 : ∀ k, fx k → P.fx k ∨ w.heap.size ≤ k) (h2 : ∀ k, fx k → k < w'.heap.size) : MOn w' { P with fx := fx } M vm vs vc vi vo sv := by
  have h' := h.next hb
  refine ⟨h'.hoff, h'.rl, h'.blk, h'.m, h'.s, h'.gm, h'.gs, h'.am, h'.as_, ?_, h2⟩
  refine h.l.keep (fun b o hd => hb.cell (p := ⟨b, o, none⟩) hd.1) fun k hk => ⟨Nat.lt_of_lt_of_le hk.1 hb.size, fun ho => ?_⟩
  rcases ho with e | e | e | e
  · exact hk.2 (.inl e)
  · exact hk.2 (.inr (.inl e))
  · exact hk.2 (.inr (.inr (.inl e)))
  · rcases h1 k e with e | e
    · exact hk.2 (.inr (.inr (.inr e)))
    · have := hk.1; omega
theorem MAt.foreign {w w' : World} {P : Pl} {M : Mach} (h : MAt w P M) (hb : Below w.heap.size w w') {fx : Nat → Prop} (h1 : ∀ k, fx k → P.fx k ∨ w.heap.size ≤ k) (h2 : ∀ k, fx k → k < w'.heap.size) : MAt w' { P with fx := fx } M := by
  obtain ⟨vm, vs, vc, vi, vo, sv, h⟩ := h; exact (h.foreign hb h1 h2).mat
/-- A machine over a change of foreign blocks. -/
theorem MOn.other {w w' : World} {P : Pl} {M : Mach} {vm vs vc vi vo : Value} {sv : List Value} (h : MOn w P M vm vs vc vi vo sv) {O : Nat → Prop} (hf : Fr O w w') (h1 : ¬ O P.b) (h2 : ¬ O P.gm) (h3 : ¬ O P.gs) (hx : ∀ k, O k → P.fx k) : MOn w' P M vm vs vc vi vo sv :=
  h.far hf h1 h2 h3 (h.l.keep (fun b o hd => hf.cell hd.1 (fun ho => hd.2 (.inr (.inr (.inr (hx b ho))))) o) fun k hk => ⟨Nat.lt_of_lt_of_le hk.1 hf.size, hk.2⟩)
theorem MAt.other {w w' : World} {P : Pl} {M : Mach} (h : MAt w P M) {O : Nat → Prop} (hf : Fr O w w') (h1 : ¬ O P.b) (h2 : ¬ O P.gm) (h3 : ¬ O P.gs) (hx : ∀ k, O k → P.fx k) : MAt w' P M := by
  obtain ⟨vm, vs, vc, vi, vo, sv, h⟩ := h; exact (h.other hf h1 h2 h3 hx).mat
/-- Bounds of a machine's lengths. -/
structure MLn (M : Mach) : Prop where
  ml : M.m.length ≤ 16384
  sl : M.s.length ≤ 16384
  cl : M.calls.length ≤ 10000
  il : M.inp.length ≤ 100000
  ol : M.out.length ≤ 100000
  st : ∀ l ∈ M.s, l.length ≤ 17592186044400
theorem MBd.ln {M : Mach} (h : MBd M) : MLn M := ⟨h.ml, h.sl, Nat.le_trans h.cl (by decide), Nat.le_trans h.il (by decide), Nat.le_trans h.ol (by decide), h.st⟩
/-- What lies behind the boxing of an argument. -/
theorem MOn.al {w : World} {P : Pl} {M : Mach} {vm vs vc vi vo : Value} {sv : List Value} (h : MOn w P M vm vs vc vi vo sv) (t : TypeId) (cs : Array Value) :
    ∃ w1, w1 = w.alloc (.cells cs t) ∧ MOn w1 P M vm vs vc vi vo sv ∧ Below w.heap.size w w1 ∧ Blk w1 w.heap.size t cs ∧ P.b < w1.heap.size ∧ P.b < w.heap.size ∧ P.b ≠ w.heap.size ∧ P.b ≠ w1.heap.size := by
  have hb : Below w.heap.size w (w.alloc (.cells cs t)) := (Below.refl _ _).alloc (Nat.le_refl _) _
  have h1 := h.next hb
  have l1 := h1.lt; have l0 := h.lt
  exact ⟨_, rfl, h1, hb, Blk.new _ _ _, l1, l0, by omega, by omega⟩
theorem MOn.rg {w : World} {P : Pl} {M : Mach} {vm vs vc vi vo : Value} {sv : List Value} (h : MOn w P M vm vs vc vi vo sv) (k : Nat) (hk : k < 16) :
    w.cell? ⟨P.b, P.off + 2 + k, none⟩ = some (.int .i64 (M.reg k)) ∧ w.frozen? ⟨P.b, P.off + 2 + k, none⟩ = false ∧ (0 : Int) ≤ (k : Int) ∧ (k : Int) < 16 :=
  ⟨h.cr k hk, h.frozen _, by omega, by omega⟩
end Bk

/- An 'append' that grows, as far as growslice's own test goes whatever stood there before. -/
set_option linter.unusedVariables false
namespace Bk
open Go Go.RowKit
theorem step_app {P : Program} {ops : Array Oper} {o : Oper} {a : Act} {w : World} {K : Act → World → Prop} {Q : Exit → Act → World → Prop} {E : Prop}
    (hg : o.guard = none) (s x : Operand) (t : TypeId) (hop : o.op = Op.call { callee := Callee.builtin Builtin.append, args := #[s, x], argTypes := #[t, t] })
    (e : TypeId) (i : TypeInfo) (z : Value) (sz bt : Nat) (h1 : P.underlying t = some (.slice e)) (h2 : P.info? e = some i) (h3 : i.zero = some z) (h4 : i.size = sz) (h5 : i.bytes = bt) (h6 : z.cells.size = sz) (h7 : 0 < sz)
    (A : Option Addr) (n cap : Nat) (xs : List Value) (hs : a.eval s = .slice A n cap) (hA : A = none → n = 0 ∧ cap = 0) (hl : xs.length = n * sz) (hxs : ∀ b, A = some b → ∀ j u, xs[j]? = some u → w.cell? (b.add j) = some u)
    (ad : Addr) (m c : Nat) (ys : List Value) (hx : a.eval x = .slice (some ad) m c) (hm : ys.length = m * sz) (hc : ∀ j u, ys[j]? = some u → w.cell? (ad.add j) = some u) (hy : ∀ u ∈ ys, u.oneCell' = true)
    (hfull : cap < n + m) (b1 : n + m ≤ maxLen) (b2 : ((n + m) + (n + m) / 4 + 192) * bt ≤ 281474976710656)
    (hK : ∀ v' w', w'.ownsRow w.heap.size e sz v' (n + m) (xs ++ ys) → w.grownBy w' none → K (a.put o.dst v') w') :
    if Region.wanted o (yielded ops a.tmps) = true then Oper.wp P o a w K Q else E := by
  subst h4 h5
  have hw : Region.wanted o (yielded ops a.tmps) = true := by simp [Region.wanted, hg]
  rw [if_pos hw]
  cases A with
  | none =>
    obtain ⟨rfl, rfl⟩ := hA rfl
    obtain rfl : xs = [] := List.eq_nil_of_length_eq_zero (by simpa using hl)
    obtain ⟨v', w', hrun, r1, r2, _⟩ := run_append_own_wide (P := P) w w.heap.size t o.type e i z i.size i.bytes h1 h2 h3 rfl rfl h6 h7 (.slice none 0 0) 0 [] (World.ownsRow_nil w _ e i.size) ad m c ys hm hc hy b1 b2 (Nat.le_refl _)
    unfold Oper.wp
    simp [execOp, hop, resolve, invoke, builtin, hs, hx, hrun, Result.andThen]
    exact hK v' w' r1 r2
  | some b =>
    have hrun := run_append_grow (P := P) w t o.type e i z h1 h2 h3 b n cap xs hl (hxs b rfl) ad m c ys hm hc hfull (by unfold maxLen at b1; omega) (growslice_fits_wide hfull b2)
    have hlen : (xs ++ ys).length = (n + m) * i.size := by rw [List.length_append, hl, hm, Nat.add_mul]
    have hge := grownCap_ge w (n + m) cap e
    unfold Oper.wp
    simp [execOp, hop, resolve, invoke, builtin, hs, hx, hrun, Result.andThen]
    refine hK _ _ ⟨hlen, .inr ⟨w.heap.size, _, _, rfl, Nat.le_refl _, heap_alloc_new w.drew _, hge, grownCap_le_maxLen w (n + m) cap e b1, ?_, ?_⟩⟩ ⟨rfl, rfl, rfl, by simp, fun k hk _ => Below.heap_alloc w.drew _ k hk⟩
    · simp only [Array.size_append, List.size_toArray, size_zeroCells, h6, hlen]
      rw [← Nat.add_mul]
      congr 1
      omega
    · simp only [Array.toList_append]
      rw [← hlen]
      exact List.take_left
end Bk

/- Machines in memory: more lemmas. -/
set_option linter.unusedVariables false
namespace Bk
open Go Go.RowKit

theorem Rd.drop1 {w : World} {D : Nat → Prop} {b off m : Nat} {x : Value} {xs : List Value} (h : Rd w D 1 (some ⟨b, off, none⟩) (m + 1) (x :: xs)) : Rd w D 1 (some ⟨b, off + 1, none⟩) m xs := by
  refine ⟨by have := h.1; simpa using this, fun hn => ?_⟩
  obtain ⟨b', off', e, hd, hc⟩ := h.2 (by omega)
  injection e with e; injection e with e1 e2; subst e1; subst e2
  exact ⟨b, off + 1, rfl, hd, fun j u hu => by rw [show off + 1 + j = off + (j + 1) by omega]; exact hc (j + 1) u (by simpa using hu)⟩
theorem Sl.empty {w : World} {D : Nat → Prop} {A : Option Addr} {c : Nat} (hA : A = none → c = 0) : Sl w D 1 (.slice A 0 c) 0 [] := ⟨A, c, rfl, Nat.zero_le _, hA, Rd.none_ _⟩
theorem oneInt (l : List Int) : ∀ u ∈ intCells l, u.oneCell' = true := by
  intro u hu; simp [intCells] at hu; obtain ⟨x, _, rfl⟩ := hu; rfl

/-- 'append' of a whole list to a slice of one number just made: the new slice lies in new memory. -/
theorem step_cons {P : Program} {T e : TypeId} {i : TypeInfo} (hT : P.underlying T = some (.slice e)) (li : P.info? e = some i) (lz : i.zero = some (.int .i64 0)) (ls : i.size = 1) (lb : i.bytes = 8)
    {ops : Array Oper} {o : Oper} {a : Act} {w : World} {K : Act → World → Prop} {Q : Exit → Act → World → Prop} {E : Prop}
    (hg : o.guard = none) (s x : Operand) (hop : o.op = Op.call { callee := Callee.builtin Builtin.append, args := #[s, x], argTypes := #[T, T] })
    (g : Nat) (v : Int) (hs : a.eval s = .slice (some ⟨g, 0, none⟩) 1 1) (hc : w.cell? ⟨g, 0, none⟩ = some (.int .i64 v)) (hgl : g < w.heap.size)
    (A : Option Addr) (n cap : Nat) (l : List Int) (hx : a.eval x = .slice A n cap) (hA : A = none → cap = 0) (hn : n ≤ cap) {D : Nat → Prop} (hR : Rd w D 1 A n (intCells l)) (hmax : n ≤ 17592186044400)
    (hK : ∀ g' c w', Sl w' (fun b => g ≤ b ∧ b < w'.heap.size) 1 (.slice (some ⟨g', 0, none⟩) (n + 1) c) (n + 1) (intCells (v :: l)) → Below w.heap.size w w' → K (a.put o.dst (.slice (some ⟨g', 0, none⟩) (n + 1) c)) w') :
    if Region.wanted o (yielded ops a.tmps) = true then Oper.wp P o a w K Q else E := by
  have hl : (intCells l).length = n := by have := hR.1; omega
  rcases Nat.eq_zero_or_pos n with h0 | h0
  · subst h0
    have hl0 : l = [] := by rw [intCells_length] at hl; exact List.eq_nil_of_length_eq_zero hl
    subst hl0
    have hsrc : Src P i.size T (.slice A 0 cap) 0 [] w := by
      cases A with
      | none => exact Src.ofNil w hT cap
      | some ad => exact Src.ofSlice w hT ad 0 cap [] (by simp) (fun j u hu => by simp at hu) (fun u hu => by simp at hu)
    have hrun := run_append_nothing (P := P) w T T o.type e i hT li (some ⟨g, 0, none⟩) 1 1 (Nat.le_refl _) (.slice A 0 cap) hsrc
    have hw : Region.wanted o (yielded ops a.tmps) = true := by simp [Region.wanted, hg]
    rw [if_pos hw]
    unfold Oper.wp
    simp [execOp, hop, resolve, invoke, builtin, hs, hx, hrun, Result.andThen]
    refine hK g 1 w ⟨_, 1, rfl, Nat.le_refl _, (fun h => by cases h), ?_⟩ (Below.refl _ _)
    exact ⟨rfl, fun _ => ⟨g, 0, rfl, ⟨Nat.le_refl _, hgl⟩, fun j u hu => by
      match j, hu with
      | 0, hu => simp [intCells] at hu; subst hu; exact hc⟩⟩
  · obtain ⟨bb, off, rfl, _, hcc⟩ := hR.2 h0
    refine step_app hg s x T hop e i _ 1 8 hT li lz ls lb rfl (by decide) (some ⟨g, 0, none⟩) 1 1 [.int .i64 v] hs (fun h => by cases h) rfl (fun b hb j u hu => ?_) ⟨bb, off, none⟩ n cap (intCells l) hx (by omega) (fun j u hu => by rw [Addr.add_lit]; exact hcc j u hu) (oneInt l) (by omega) (by unfold maxLen; omega) (by omega) (fun v' w' hown hgr => ?_)
    · injection hb with hb
      subst hb
      exact cell_one hc j u hu
    · obtain ⟨g', c, rfl, _⟩ := own_some hown (by omega)
      have e : 1 + n = n + 1 := by omega
      rw [e] at hown ⊢
      refine hK g' c w' ?_ ((Below.refl _ _).grown hgr (Nat.le_refl _) (fun k hk => by cases hk))
      exact (Sl.of_own hown).mono fun k hk => ⟨by omega, hk.2⟩
end Bk

/- Plain: machines that fit: from the test; bounds; how the stacks grow. -/
set_option linter.unusedVariables false
namespace Bk
open Go.RowKit (wrap64)
/-- The numbers of a machine are numbers of the language. -/
structure MWf (M : Mach) : Prop where
  rl : M.r.length = 16
  rr : ∀ x ∈ M.r, I64 x
  mr : ∀ x ∈ M.m, I64 x
  sr : ∀ l ∈ M.s, ∀ x ∈ l, I64 x
  ir : ∀ x ∈ M.inp, I64 x
  or_ : ∀ x ∈ M.out, I64 x
theorem Fit.of {im : Img} {M : Mach} (hw : MWf M) (h : fitsB im M = true) : Fit im M := by
  unfold fitsB at h
  simp only [Bool.and_eq_true, decide_eq_true_eq] at h
  obtain ⟨⟨⟨⟨⟨⟨⟨h1, h2⟩, h3⟩, h4⟩, h5⟩, h6⟩, h7⟩, h8⟩ := h
  refine ⟨⟨hw.rl, hw.rr, hw.mr, hw.sr, hw.ir, hw.or_, fun k hk => ?_, h7.2.1, h7.2.2, h8.1, by omega, h8.2.2.1, by omega, h4.2⟩, h1, h2.1, h2.2, h3, h4.1, h7.1, fun a ha => ?_⟩
  · rw [List.getD_eq_getElem?_getD]
    cases e : M.s[k]? with
    | none => simp
    | some l =>
      have hm : l ∈ M.s.drop 1 := List.mem_iff_getElem?.2 ⟨k - 1, by rw [List.getElem?_drop, show 1 + (k - 1) = k by omega, e]⟩
      simpa using List.all_eq_true.1 h5 l hm
  · simpa using List.all_eq_true.1 h6 a ha
theorem fitsB_of {im : Img} {M : Mach} (h : Fit im M) : fitsB im M = true := by
  unfold fitsB
  simp only [Bool.and_eq_true, decide_eq_true_eq]
  refine ⟨⟨⟨⟨⟨⟨⟨h.d, h.p0, h.p1⟩, h.ml⟩, h.sn, h.ok.s1⟩, ?_⟩, ?_⟩, h.cl, h.ok.inl, h.ok.outl⟩, h.ok.fp0, ?_, h.ok.sb0, ?_⟩
  · rw [List.all_eq_true]
    intro l hl
    obtain ⟨k, hk⟩ := List.mem_iff_getElem?.1 hl
    rw [List.getElem?_drop] at hk
    have := h.ok.sl (1 + k) (by omega)
    rw [List.getD_eq_getElem?_getD, hk] at this
    simpa using this
  · rw [List.all_eq_true]
    intro a ha
    simpa using h.cs a ha
  · have := h.ok.fp1; have := h.ml; omega
  · have := h.ok.sb1; have := h.sn; omega
def SB (K : Nat) (M : Mach) : Prop := ∀ l ∈ M.s, l.length ≤ K
theorem SB.mono {K K' : Nat} {M : Mach} (h : SB K M) (hk : K ≤ K') : SB K' M := fun l hl => Nat.le_trans (h l hl) hk
theorem MBd.of {im : Img} {M : Mach} (hv : im.check.2 = 0) (hf : Fit im M) {K : Nat} (hs : SB K M) (hK : K ≤ 17592186044400) : MBd M := by
  have hz := (check_fault hv).1
  unfold Img.sized at hz
  simp only [Bool.and_eq_true, decide_eq_true_eq] at hz
  have h1 := hf.ml; have h2 := hf.sn; have h3 := hf.ok.fp1; have h4 := hf.ok.sb1
  exact ⟨hf.ok.fp0, by omega, hf.ok.sb0, by omega, by omega, by omega, hf.cl, hf.ok.inl, hf.ok.outl, fun l hl => Nat.le_trans (hs l hl) hK⟩
theorem SB.stk {K : Nat} {M : Mach} (h : SB K M) (k : Int) : (M.stk k).length ≤ K := by
  unfold Mach.stk
  rw [List.getD_eq_getElem?_getD]
  cases e : M.s[k.toNat]? with
  | none => simp
  | some l => exact h l (List.mem_of_getElem? e)
theorem SB.setS {K : Nat} {M : Mach} (h : SB K M) (k : Int) {l : List Int} (hl : l.length ≤ K) : SB K (M.setS k l) := by
  intro x hx
  unfold Mach.setS at hx
  rcases List.mem_or_eq_of_mem_set hx with hx | rfl
  · exact h x hx
  · exact hl
theorem SB.same {K : Nat} {M N : Mach} (h : SB K M) (e : N.s = M.s) : SB K N := by unfold SB; rw [e]; exact h
theorem SB.ite {K : Nat} {c : Prop} [Decidable c] {a b : Int × Mach} (h1 : SB K a.2) (h2 : SB K b.2) : SB K (if c then a else b).2 := by split <;> assumption
theorem SB.exec {K : Nat} {M : Mach} (h : SB K M) (i : Ins) : SB (K + 1) (exec M i).2 := by
  have h1 : SB (K + 1) M := h.mono (by omega)
  have hex : ∀ r a, SB (K + 1) (exchange M r a).2 := fun r a => by unfold exchange; split <;> exact h1
  have hsh : ∀ a b, SB (K + 1) (shift M a b).2 := fun a b => by unfold shift; split <;> exact h1
  have hsw : ∀ a b, SB (K + 1) (swapS M a b).2 := fun a b => by
    unfold swapS
    split; exact h1
    split; exact h1
    split; exact h1
    exact (h1.setS (find M a) (l := M.stk (find M b)) (h1.stk _)).setS (find M b) (h1.stk _)
  have hst : SB (K + 1) (stack M i).2 := by
    unfold stack
    split; exact h1
    split; exact h1
    split
    · split; exact h1
      exact (h1.setS _ (by have := h.stk (find M i.b); simp; omega)).same rfl
    split; exact h1
    split; exact h1
    split; exact h1
    exact (h1.setS _ (by have := h.stk (find M i.b); simp; omega)).same rfl
  have htr : SB (K + 1) (transfer M i).2 := by
    unfold transfer
    repeat' (first | exact h1 | split)
  have h2 : ∀ k v, SB (K + 1) (M.setR k v) := fun k v => h1
  unfold Bk.exec
  exact .ite h1 (.ite (h2 _ _) (.ite (h2 _ _) (.ite (h2 _ _) (.ite (h2 _ _) (.ite (h2 _ _) (.ite (h2 _ _) (.ite h1 (.ite (h2 _ _) (.ite (.ite h1 (h2 _ _)) (.ite (.ite h1 h1) (.ite (hex _ _) (.ite (.ite h1 (hex _ _)) (.ite (hsh _ _) (.ite (hsh _ _) (.ite (hsw _ _) (.ite hst htr))))))))))))))))
theorem SB.step {K : Nat} {M : Mach} (h : SB K M) (code : Prg) : SB (K + 1) (step code M).2 := by
  have h1 : SB (K + 1) M := h.mono (by omega)
  have hen : ∀ k, SB (K + 1) (enter code M k).2 := fun k => by unfold enter; repeat' (first | exact h1 | split)
  have hle : ∀ k, SB (K + 1) (leave code M k).2 := fun k => by unfold leave; exact .ite h1 (.ite h1 h1)
  have hju : ∀ k, SB (K + 1) (jump code M k).2 := fun k => by unfold jump; repeat' (first | exact h1 | split)
  unfold Bk.step
  dsimp only
  exact .ite h1 (.ite h1 (.ite h1 (.ite (hen _) (.ite (hle _) (.ite (hju _) (.ite ((h.exec _).same rfl) h1))))))
theorem SB.turn {K : Nat} {M : Mach} (h : SB K M) : SB K M.turn := h
end Bk
