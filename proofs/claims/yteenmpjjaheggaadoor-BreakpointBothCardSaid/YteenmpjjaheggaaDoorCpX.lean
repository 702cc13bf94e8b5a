/- Several texts in one: CpuX CpuY CpuZ CpuEa Mq CpuEb. -/
import Derived.Test.YteenmpjjaheggaaDoorCpF
import Derived.Lib.SliceRun
import Derived.Outline
import Derived.Deep.DeepAppendWide
import Derived.Deep.MidRow
import Derived.Great.Walk
import Derived.Deep.WholeRow
import Derived.Test.YteenmpjjaheggaaDoorBa
import Derived.ChangeKeysEq
set_option linter.unusedVariables false
set_option linter.unusedSimpArgs false
/- slices.Clone at []int and []Activation. -/
set_option maxRecDepth 100000
set_option maxHeartbeats 8000000
set_option linter.unusedVariables false
namespace Bk
open Go
theorem addr_add' (b off j : Nat) : (⟨b, off, none⟩ : Addr).add j = ⟨b, off + j, none⟩ := by
  unfold Addr.add
  split
  · rename_i h0; subst h0; rfl
  · rfl
end Bk
namespace Go.Proofs.YteenmpjjaheggaaDoor
open Go.RowKit Bk
theorem info_actX : (Tryd.prog.info? 39).map (fun i => (i.zero, i.size, i.bytes)) = some (some (.agg #[.int .i64 0, .bool false]), 2, 16) := by kernel_rfl
theorem oneActX (l : List (Int × Bool)) : ∀ u ∈ actCells l, u.oneCell' = true := by
  intro u hu
  unfold actCells at hu
  obtain ⟨x, _, hx⟩ := List.mem_flatMap.1 hu
  simp at hx
  rcases hx with rfl | rfl <;> rfl

theorem CloneI.some_ (ad : Addr) (n cap : Nat) (l : List Int) (w : World) (hmax : n ≤ 20000000000000) (hl : (intCells l).length = n * 1) (hc : ∀ j u, (intCells l)[j]? = some u → w.cell? (ad.add j) = some u) :
    Calls Tryd.prog 33 #[.slice (some ad) n cap] w fun e w' => ∃ v, e = .returned v ∧ w'.ownsRow w.heap.size 3 1 v n (intCells l) ∧ Below w.heap.size w w' := by
  obtain ⟨i2, li, lz, ls, lb⟩ := info_parts info_intP
  have q28 : ∀ (w : World) (a : Option Addr) (n c n' c' : Nat), (binOp .eql 23 (.slice a n c) (.slice none n' c')).run Tryd.prog w = .ok (.bool a.isNone) w := fun w a n c n' c' => Lib.run_eql_slice_nil w _ _ a n c n' c' Tryd.underlying23
  have HC := Lib.hid hc; clear hc
  have HL := Lib.hid hl; clear hl
  go_enter Tryd.func33, Tryd.ntmps33
  go_wp2_with (at_builtin; refine wpList_append_own_wide _ rfl _ _ 23 rfl w.heap.size 3 i2 _ 1 8 Tryd.underlying23 li lz ls lb rfl (by decide) _ _ _ rfl (World.ownsRow_made w #[] 0 (Nat.le_refl _) (Nat.zero_le _) rfl) ad n cap (intCells l) rfl ?qc1 ?qc2 ?qc3 ?qc4 ?qc5 ?qc6 ?_)
  case qc1 => exact HL.out
  case qc2 =>
    intro j u hj
    have h := HC.out j u hj
    refine Lib.cell?_alloc_some _ h
  case qc3 => exact oneInt l
  case qc4 => unfold maxLen; omega
  case qc5 => omega
  case qc6 => simp
  intro v' w1 hown hgrow hnil
  go_wp2
  go_ret
  refine ⟨v', rfl, by simpa using hown, ?_⟩
  exact ((Below.refl _ w).alloc (Nat.le_refl _) _).grown hgrow (by simp) (by intro k hk; simp [Value.ownBlock] at hk; omega)

theorem c_CloneI {w : World} {D : Nat → Prop} {v : Value} {l : List Int} (h : Sl w D 1 v l.length (intCells l)) (hmax : l.length ≤ 20000000000000) :
    Calls Tryd.prog 33 #[v] w fun e w' => ∃ v, e = .returned v ∧ w'.ownsRow w.heap.size 3 1 v l.length (intCells l) ∧ Below w.heap.size w w' := by
  obtain ⟨A, cap, rfl, hcap, hA, hC⟩ := h
  cases A with
  | none =>
    have hcode : l = [] := by
      rcases Nat.eq_zero_or_pos l.length with h | h
      · exact List.eq_nil_of_length_eq_zero h
      · obtain ⟨b, off, e, _⟩ := hC.2 h; cases e
    subst hcode
    have q28 : ∀ (w : World) (a : Option Addr) (n c n' c' : Nat), (binOp .eql 23 (.slice a n c) (.slice none n' c')).run Tryd.prog w = .ok (.bool a.isNone) w := fun w a n c n' c' => Lib.run_eql_slice_nil w _ _ a n c n' c' Tryd.underlying23
    clear hC hcap hA hmax
    go_enter Tryd.func33, Tryd.ntmps33
    go_wp2
    go_ret
    exact ⟨_, rfl, ⟨rfl, .inl ⟨rfl, rfl⟩⟩, Below.refl _ _⟩
  | some ad =>
    refine CloneI.some_ ad _ cap l w hmax hC.1 fun j u hu => ?_
    rcases Nat.eq_zero_or_pos l.length with h | h
    · have : l = [] := List.eq_nil_of_length_eq_zero h
      subst this
      simp [intCells] at hu
    · obtain ⟨b, off, e, _, hc⟩ := hC.2 h
      injection e with e
      subst e
      rw [addr_add']
      exact hc j u hu

theorem CloneA.some_ (ad : Addr) (n cap : Nat) (l : List (Int × Bool)) (w : World) (hmax : n ≤ 65536) (hl : (actCells l).length = n * 2) (hc : ∀ j u, (actCells l)[j]? = some u → w.cell? (ad.add j) = some u) :
    Calls Tryd.prog 34 #[.slice (some ad) n cap] w fun e w' => ∃ v, e = .returned v ∧ w'.ownsRow w.heap.size 39 2 v n (actCells l) ∧ Below w.heap.size w w' := by
  obtain ⟨i2, li, lz, ls, lb⟩ := info_parts info_actX
  have q28 : ∀ (w : World) (a : Option Addr) (n c n' c' : Nat), (binOp .eql 25 (.slice a n c) (.slice none n' c')).run Tryd.prog w = .ok (.bool a.isNone) w := fun w a n c n' c' => Lib.run_eql_slice_nil w _ _ a n c n' c' Tryd.underlying25
  have HC := Lib.hid hc; clear hc
  have HL := Lib.hid hl; clear hl
  go_enter Tryd.func34, Tryd.ntmps34
  go_wp2_with (at_builtin; refine wpList_append_own_wide _ rfl _ _ 25 rfl w.heap.size 39 i2 _ 2 16 Tryd.underlying25 li lz ls lb rfl (by decide) _ _ _ rfl (World.ownsRow_made w #[] 0 (Nat.le_refl _) (Nat.zero_le _) rfl) ad n cap (actCells l) rfl ?qc1 ?qc2 ?qc3 ?qc4 ?qc5 ?qc6 ?_)
  case qc1 => exact HL.out
  case qc2 =>
    intro j u hj
    have h := HC.out j u hj
    refine Lib.cell?_alloc_some _ h
  case qc3 => exact oneActX l
  case qc4 => unfold maxLen; omega
  case qc5 => omega
  case qc6 => simp
  intro v' w1 hown hgrow hnil
  go_wp2
  go_ret
  refine ⟨v', rfl, by simpa using hown, ?_⟩
  exact ((Below.refl _ w).alloc (Nat.le_refl _) _).grown hgrow (by simp) (by intro k hk; simp [Value.ownBlock] at hk; omega)

theorem c_CloneA {w : World} {D : Nat → Prop} {v : Value} {l : List (Int × Bool)} (h : Sl w D 2 v l.length (actCells l)) (hmax : l.length ≤ 65536) :
    Calls Tryd.prog 34 #[v] w fun e w' => ∃ v, e = .returned v ∧ w'.ownsRow w.heap.size 39 2 v l.length (actCells l) ∧ Below w.heap.size w w' := by
  obtain ⟨A, cap, rfl, hcap, hA, hC⟩ := h
  cases A with
  | none =>
    have hcode : l = [] := by
      rcases Nat.eq_zero_or_pos l.length with h | h
      · exact List.eq_nil_of_length_eq_zero h
      · obtain ⟨b, off, e, _⟩ := hC.2 h; cases e
    subst hcode
    have q28 : ∀ (w : World) (a : Option Addr) (n c n' c' : Nat), (binOp .eql 25 (.slice a n c) (.slice none n' c')).run Tryd.prog w = .ok (.bool a.isNone) w := fun w a n c n' c' => Lib.run_eql_slice_nil w _ _ a n c n' c' Tryd.underlying25
    clear hC hcap hA hmax
    go_enter Tryd.func34, Tryd.ntmps34
    go_wp2
    go_ret
    exact ⟨_, rfl, ⟨rfl, .inl ⟨rfl, rfl⟩⟩, Below.refl _ _⟩
  | some ad =>
    refine CloneA.some_ ad _ cap l w hmax hC.1 fun j u hu => ?_
    rcases Nat.eq_zero_or_pos l.length with h | h
    · have : l = [] := List.eq_nil_of_length_eq_zero h
      subst this
      simp [actCells] at hu
    · obtain ⟨b, off, e, _, hc⟩ := hC.2 h
      injection e with e
      subst e
      rw [addr_add']
      exact hc j u hu

end Go.Proofs.YteenmpjjaheggaaDoor

/- cpu.Clone: a machine that is only read is copied. -/
set_option maxRecDepth 100000
set_option maxHeartbeats 8000000
set_option linter.unusedVariables false
namespace Bk
open Go Go.RowKit
/-- A machine that is only read: 25 cells at an address, lists in blocks of D. -/
structure MRd (w : World) (D : Nat → Prop) (b off : Nat) (M : Mach) (vm vs vc vi vo : Value) (sv : List Value) : Prop where
  rl : M.r.length = 16
  lt : b < w.heap.size
  c : ∀ j, j < 25 → w.cell? ⟨b, off + j, none⟩ = (mcells M vm vs vc vi vo)[j]?
  m : Sl w D 1 vm M.m.length (intCells M.m)
  s : Sl w D 1 vs M.s.length sv
  l : Lists w D M vc vi vo sv
  d : ∀ k, D k → k < w.heap.size
theorem MRd.next {w w' : World} {D : Nat → Prop} {b off : Nat} {M : Mach} {vm vs vc vi vo : Value} {sv : List Value} (h : MRd w D b off M vm vs vc vi vo sv) (hb : Below w.heap.size w w') : MRd w' D b off M vm vs vc vi vo sv :=
  ⟨h.rl, Nat.lt_of_lt_of_le h.lt hb.size, fun j hj => (hb.cell (p := ⟨b, off + j, none⟩) h.lt).trans (h.c j hj), h.m.keep (fun b o hd => hb.cell (p := ⟨b, o, none⟩) (h.d _ hd)) fun _ h => h,
   h.s.keep (fun b o hd => hb.cell (p := ⟨b, o, none⟩) (h.d _ hd)) fun _ h => h, h.l.keep (fun b o hd => hb.cell (p := ⟨b, o, none⟩) (h.d _ hd)) fun _ h => h, fun k hk => Nat.lt_of_lt_of_le (h.d k hk) hb.size⟩
/-- A clone: a machine in new memory. -/
def Cloned (w : World) (t : TypeId) (M : Mach) (e : Ending) (w' : World) : Prop :=
  ∃ b gm gs, e = .returned (.pointer (some ⟨b, 0, none⟩)) ∧ w.heap.size ≤ b ∧ w.heap.size ≤ gm ∧ w.heap.size ≤ gs ∧ MAt w' ⟨b, t, [], [], 0, gm, gs, (· < w.heap.size)⟩ M ∧ Below w.heap.size w w'
theorem Blk.mset {w : World} {g : Nat} {t : TypeId} {M : Mach} {vm vs vc vi vo : Value} (h : Blk w g t (mcells M vm vs vc vi vo).toArray) (hr : M.r.length = 16) (k : Nat) (u : Value) :
    Blk (w.setCell ⟨g, 18 + k, none⟩ u) g t (.int .i64 M.pc :: .int .i64 M.dir :: (intCells M.r ++ [vm, vs, vc, .int .i64 M.fp, .int .i64 M.sb, vi, vo].set k u)).toArray := by
  have := h.set_ (18 + k) u
  rwa [List.setIfInBounds_toArray, tail_set M vm vs vc vi vo u hr k] at this
theorem Row.of_own {w : World} {base n : Nat} {e : TypeId} {v : Value} {xs : List Value} (h : w.ownsRow base e 1 v n xs) (hx : xs.length = n) (g : Nat) (hg : g < base) (hgs : g < w.heap.size) : ∃ gm, g ≤ gm ∧ gm < w.heap.size ∧ (0 < xs.length → gm ≠ g) ∧ Row w gm v xs := by
  subst hx
  rcases h.2 with ⟨rfl, h0⟩ | ⟨g', cap, cur, rfl, hg', hh, hnc, hcap, hsz, htake⟩
  · exact ⟨g, Nat.le_refl _, hgs, fun hn => by omega, none, 0, by rw [h0], by omega, fun _ => rfl, fun hn => by omega⟩
  · refine ⟨g', by omega, Blk.lt (cs := cur) hh, fun _ => by omega, _, cap, rfl, hnc, (fun e => by cases e), fun _ => ⟨rfl, e, cur, hh, fun j u hu => ?_⟩⟩
    have hj : j < xs.length := (List.getElem?_eq_some_iff.1 hu).1
    have := htake
    rw [Nat.mul_one] at this
    rw [← Array.getElem?_toList, ← hu, ← this, List.getElem?_take, if_pos hj]
/-- What the loop of Clone keeps. -/
structure ClInv (w w3 wj : World) (tM tI : TypeId) (M : Mach) (vm vc vi vo : Value) (gm n j : Nat) : Prop where
  b : Below w.heap.size w wj
  k : Blk wj w.heap.size tM (mcells M vm (.slice (some ⟨w3.heap.size, 0, none⟩) n n) vc vi vo).toArray
  m : Row wj gm vm (intCells M.m)
  l : w3.heap.size < wj.heap.size
  s : ∃ sv : List Value, sv.length = n ∧ Blk wj w3.heap.size tI sv.toArray ∧ ∀ k, k < j → ∃ u, sv[k]? = some u ∧ Sl wj (fun b => w3.heap.size < b ∧ b < wj.heap.size) 1 u (M.s.getD k []).length (intCells (M.s.getD k []))
theorem ClInv.next {w w3 wj wk : World} {tM tI : TypeId} {M : Mach} {vm vc vi vo : Value} {gm n j : Nat} (h : ClInv w w3 wj tM tI M vm vc vi vo gm n j) (hb : Below wj.heap.size wj wk) (hgm : gm < wj.heap.size) : ClInv w w3 wk tM tI M vm vc vi vo gm n j := by
  obtain ⟨sv, h1, h2, h3⟩ := h.s
  refine ⟨h.b.next hb, h.k.next hb, h.m.keep fun _ => hb.block _ hgm, Nat.lt_of_lt_of_le h.l hb.size, sv, h1, h2.next hb, fun k hk => ?_⟩
  obtain ⟨u, hu, hs⟩ := h3 k hk
  exact ⟨u, hu, hs.keep (fun b o hd => hb.cell (p := ⟨b, o, none⟩) hd.2) fun k hk => ⟨hk.1, Nat.lt_of_lt_of_le hk.2 hb.size⟩⟩
theorem ClInv.put {w w3 wj : World} {tM tI : TypeId} {M : Mach} {vm vc vi vo : Value} {gm n j : Nat} (h : ClInv w w3 wj tM tI M vm vc vi vo gm n j) (hg : w.heap.size < w3.heap.size) (hgm : gm < w3.heap.size) (u : Value) (hj : j < n)
    (hu : Sl wj (fun b => w3.heap.size < b ∧ b < wj.heap.size) 1 u (M.s.getD j []).length (intCells (M.s.getD j []))) : ClInv w w3 (wj.setCell ⟨w3.heap.size, j, none⟩ u) tM tI M vm vc vi vo gm n (j + 1) := by
  have ne : ∀ g, g ≠ w3.heap.size → (wj.setCell ⟨w3.heap.size, j, none⟩ u).heap[g]? = wj.heap[g]? := fun g hg => Below.heap_setCell wj ⟨w3.heap.size, j, none⟩ _ g hg
  have hsz : (wj.setCell ⟨w3.heap.size, j, none⟩ u).heap.size = wj.heap.size := by simp [World.setCell]
  obtain ⟨sv, h1, h2, h3⟩ := h.s
  have kp : ∀ b o, (w3.heap.size < b ∧ b < wj.heap.size) → (wj.setCell ⟨w3.heap.size, j, none⟩ u).cell? ⟨b, o, none⟩ = wj.cell? ⟨b, o, none⟩ := fun b o hd => World.cell?_of_block (ne b (by omega))
  refine ⟨⟨h.b.os, h.b.tape, h.b.output, by rw [hsz]; exact h.b.size, fun k hk => (ne k (by omega)).trans (h.b.block k hk)⟩, (ne _ (by omega)).trans h.k, h.m.keep fun _ => ne _ (by omega), by rw [hsz]; exact h.l, sv.set j u, by simp [h1], ?_, fun k hk => ?_⟩
  · have := h2.set_ j u
    rwa [List.setIfInBounds_toArray] at this
  · by_cases e : k = j
    · subst e
      exact ⟨u, by rw [List.getElem?_set, if_pos rfl, if_pos (by omega)], hu.keep kp fun k hk => ⟨hk.1, by rw [hsz]; exact hk.2⟩⟩
    · obtain ⟨u', hu', hs'⟩ := h3 k (by omega)
      exact ⟨u', by rw [List.getElem?_set, if_neg (fun h => e h.symm)]; exact hu', hs'.keep kp fun k hk => ⟨hk.1, by rw [hsz]; exact hk.2⟩⟩
theorem ClInv.cell {w w3 wj : World} {tM tI : TypeId} {M : Mach} {vm vc vi vo : Value} {gm n j : Nat} (h : ClInv w w3 wj tM tI M vm vc vi vo gm n j) (k : Nat) (hk : k < n) : ∃ old, wj.cell? ⟨w3.heap.size, k, none⟩ = some old ∧ wj.frozen? ⟨w3.heap.size, k, none⟩ = false := by
  obtain ⟨sv, h1, h2, h3⟩ := h.s
  exact ⟨sv[k]'(by omega), by rw [h2.cell, List.getElem?_toArray, List.getElem?_eq_getElem (by omega)], h2.frozen k⟩
theorem ClInv.c19 {w w3 wj : World} {tM tI : TypeId} {M : Mach} {vm vc vi vo : Value} {gm n j : Nat} (h : ClInv w w3 wj tM tI M vm vc vi vo gm n j) (hr : M.r.length = 16) : wj.cell? ⟨w.heap.size, 19, none⟩ = some (.slice (some ⟨w3.heap.size, 0, none⟩) n n) := by
  rw [h.k.cell 19, List.getElem?_toArray]; exact (mc_get hr).2.2.2.2.1
theorem ClInv.top {w w3 wj : World} {tM tI : TypeId} {M : Mach} {vm vc vi vo vc' vi' vo' : Value} {gm n j : Nat} (h : ClInv w w3 wj tM tI M vm vc vi vo gm n j) (hr : M.r.length = 16) (hg : w.heap.size < w3.heap.size) (hgm : 0 < (intCells M.m).length → gm ≠ w.heap.size) (k : Nat) (u : Value)
    (hl : [vm, (.slice (some ⟨w3.heap.size, 0, none⟩) n n), vc, .int .i64 M.fp, .int .i64 M.sb, vi, vo].set k u = [vm, (.slice (some ⟨w3.heap.size, 0, none⟩) n n), vc', .int .i64 M.fp, .int .i64 M.sb, vi', vo']) : ClInv w w3 (wj.setCell ⟨w.heap.size, 18 + k, none⟩ u) tM tI M vm vc' vi' vo' gm n j := by
  have ne : ∀ g, g ≠ w.heap.size → (wj.setCell ⟨w.heap.size, 18 + k, none⟩ u).heap[g]? = wj.heap[g]? := fun g hg => Below.heap_setCell wj ⟨w.heap.size, 18 + k, none⟩ _ g hg
  have hsz : (wj.setCell ⟨w.heap.size, 18 + k, none⟩ u).heap.size = wj.heap.size := by simp [World.setCell]
  obtain ⟨sv, h1, h2, h3⟩ := h.s
  have hk := h.k.mset hr k u
  rw [hl] at hk
  refine ⟨⟨h.b.os, h.b.tape, h.b.output, by rw [hsz]; exact h.b.size, fun k hk => (ne k (by omega)).trans (h.b.block k hk)⟩, hk, h.m.keep fun hn => ne _ (hgm hn), by rw [hsz]; exact h.l, sv, h1, (ne _ (by omega)).trans h2, fun k hk => ?_⟩
  obtain ⟨u', hu', hs'⟩ := h3 k hk
  exact ⟨u', hu', hs'.keep (fun b o hd => World.cell?_of_block (ne b (by omega))) fun k hk => ⟨hk.1, by rw [hsz]; exact hk.2⟩⟩
/-- A list in new blocks, over a store to an older block. -/
theorem Sl.farset {w : World} {B sz n g o : Nat} {v u : Value} {xs : List Value} (h : Sl w (fun b => B < b ∧ b < w.heap.size) sz v n xs) (hg : g ≤ B) : Sl (w.setCell ⟨g, o, none⟩ u) (fun b => B < b ∧ b < (w.setCell ⟨g, o, none⟩ u).heap.size) sz v n xs :=
  h.keep (fun b o' hd => World.cell?_of_block (Below.heap_setCell w ⟨g, o, none⟩ u b (by simp; omega))) fun k hk => ⟨hk.1, by simpa [World.setCell] using hk.2⟩
theorem Sl.upB {w w' : World} {B sz n : Nat} {v : Value} {xs : List Value} (h : Sl w (fun b => B < b ∧ b < w.heap.size) sz v n xs) (hb : Below w.heap.size w w') : Sl w' (fun b => B < b ∧ b < w'.heap.size) sz v n xs :=
  h.keep (fun b o hd => hb.cell (p := ⟨b, o, none⟩) hd.2) fun k hk => ⟨hk.1, Nat.lt_of_lt_of_le hk.2 hb.size⟩
theorem Sl.own {w : World} {base B : Nat} {e : TypeId} {sz n : Nat} {v : Value} {xs : List Value} (h : w.ownsRow base e sz v n xs) (hB : B < base) : Sl w (fun b => B < b ∧ b < w.heap.size) sz v n xs :=
  (Sl.of_own h).mono fun k hk => ⟨by omega, hk.2⟩
theorem ClInv.done {w w3 wj : World} {tM tI : TypeId} {M : Mach} {vm vc vi vo : Value} {gm : Nat} (h : ClInv w w3 wj tM tI M vm vc vi vo gm M.s.length M.s.length) (hr : M.r.length = 16) (hg : w.heap.size < w3.heap.size) (h0 : w.heap.size ≤ gm) (h1 : gm < w3.heap.size) (h2 : 0 < (intCells M.m).length → gm ≠ w.heap.size)
    (hc : Sl wj (fun b => w3.heap.size < b ∧ b < wj.heap.size) 2 vc M.calls.length (actCells M.calls)) (hi : Sl wj (fun b => w3.heap.size < b ∧ b < wj.heap.size) 1 vi M.inp.length (intCells M.inp)) (ho : Sl wj (fun b => w3.heap.size < b ∧ b < wj.heap.size) 1 vo M.out.length (intCells M.out)) :
    Cloned w tM M (.returned (.pointer (some ⟨w.heap.size, 0, none⟩))) wj := by
  obtain ⟨sv, s1, s2, s3⟩ := h.s
  have hl := h.l
  have dm : ∀ k, (w3.heap.size < k ∧ k < wj.heap.size) → Pl.D ⟨w.heap.size, tM, [], [], 0, gm, w3.heap.size, (· < w.heap.size)⟩ wj k := fun k hk => ⟨hk.2, fun ho => by rcases ho with e | e | e | e <;> (dsimp only at e; omega)⟩
  refine ⟨w.heap.size, gm, w3.heap.size, rfl, Nat.le_refl _, h0, by omega, ⟨vm, .slice (some ⟨w3.heap.size, 0, none⟩) M.s.length M.s.length, vc, vi, vo, sv, rfl, hr, ?_, h.m, ?_, by dsimp only; omega, hl, fun hn => ⟨h2 (by rw [intCells_length]; exact hn), by dsimp only; omega⟩, fun _ => by dsimp only; omega, ⟨⟨s1, fun k hk => ?_⟩, hc.mono dm, hi.mono dm, ho.mono dm⟩, fun k hk => by have := h.b.size; dsimp only at hk; omega⟩, h.b⟩
  · have := h.k
    simpa using this
  · exact ⟨some ⟨w3.heap.size, 0, none⟩, M.s.length, by rw [s1], by omega, (fun e => by cases e), fun _ => ⟨rfl, tI, _, s2, fun j u hu => by rw [List.getElem?_toArray]; exact hu⟩⟩
  · obtain ⟨u, hu, hs⟩ := s3 k hk
    exact ⟨u, hu, hs.mono dm⟩
end Bk
namespace Go.Proofs.YteenmpjjaheggaaDoor
open Go.RowKit Bk
theorem wp_nameY {Q : Program} {c : Code} {R : Exit → Act → World → Prop} {a : Act} {w : World} (h : ∀ w', w' = w → c.wp Q R a w') : c.wp Q R a w := h w rfl
theorem calls_nameY {Q : Program} {f : FuncId} {args : Array Value} {R : Ending → World → Prop} {w : World} (h : ∀ w', w' = w → Calls Q f args w' R) : Calls Q f args w R := h w rfl
theorem getD_mem {l : List (List Int)} {k : Nat} (h : k < l.length) : l.getD k [] ∈ l := by
  rw [List.getD_eq_getElem?_getD, List.getElem?_eq_getElem h]
  exact List.getElem_mem h
theorem info_ints : (Tryd.prog.info? 23).map (fun i => (i.zero, i.size, i.bytes)) = some (some (.slice none 0 0), 1, 24) := by kernel_rfl
theorem info_mach : (Tryd.prog.info? 27).map (fun i => i.size) = some 25 := by kernel_rfl
theorem mc_len (M : Mach) (vm vs vc vi vo : Value) (hr : M.r.length = 16) : (mcells M vm vs vc vi vo).length = 25 := (mc_get (vm := vm) (vs := vs) (vc := vc) (vi := vi) (vo := vo) hr).2.2.2.2.2.2.2.2.2.2
theorem c_Clone {w : World} {D : Nat → Prop} {b off : Nat} {M : Mach} {vm vs vc vi vo : Value} {sv : List Value} (h : MRd w D b off M vm vs vc vi vo sv) (hB : MBd M) :
    Calls Tryd.prog 9 #[.pointer (some ⟨b, off, none⟩)] w (Cloned w 27 M) := by
  obtain ⟨Am, cm, rfl, hcm, hAm, hRm⟩ := h.m
  obtain ⟨Av, cv, rfl, hcv, hAv, hRv⟩ := h.s
  obtain ⟨Ac, cc, rfl, hcc, hAc, hRc⟩ := h.l.2.1
  obtain ⟨Ai, ci, rfl, hci, hAi, hRi⟩ := h.l.2.2.1
  obtain ⟨Ao, co, rfl, hco, hAo, hRo⟩ := h.l.2.2.2
  have HM := Lib.hid h; have HB := Lib.hid hB
  have hlt := h.lt
  have hlen := mc_len M (.slice Am M.m.length cm) (.slice Av M.s.length cv) (.slice Ac M.calls.length cc) (.slice Ai M.inp.length ci) (.slice Ao M.out.length co) h.rl
  have hcs : w.rangeAt b off (mcells M (.slice Am M.m.length cm) (.slice Av M.s.length cv) (.slice Ac M.calls.length cc) (.slice Ai M.inp.length ci) (.slice Ao M.out.length co)) := fun j v hv => (h.c j (by have := (List.getElem?_eq_some_iff.1 hv).1; omega)).trans hv
  have hone : ∀ v ∈ (mcells M (.slice Am M.m.length cm) (.slice Av M.s.length cv) (.slice Ac M.calls.length cc) (.slice Ai M.inp.length ci) (.slice Ao M.out.length co)), v.oneCell' = true := by
    intro v hv
    simp only [mcells, List.mem_cons, List.mem_append, List.not_mem_nil, or_false] at hv
    rcases hv with rfl | rfl | hv | rfl | rfl | rfl | rfl | rfl | rfl | rfl <;> first | rfl | exact oneInt _ _ hv
  obtain ⟨i0, hi0, hz0, hs0, hb0⟩ := info_parts info_ints
  have mk0 : ∀ W : World, (Instr.makeSlice 24 (.int .i64 (M.s.length : Int)) (.int .i64 (M.s.length : Int))).run Tryd.prog W = .ok (.slice (some ⟨W.heap.size, 0, none⟩) M.s.length M.s.length) (W.alloc (.cells (madeCells #[.slice none 0 0] M.s.length) 23)) := fun W => by
    have := run_make_rowN (P := Tryd.prog) 24 23 i0 _ Tryd.underlying24 hi0 hz0 .i64 .i64 M.s.length M.s.length (Nat.le_refl _) (by rw [hb0]; have := hB.sl; omega) (by have := hB.sl; omega) W
    rw [hs0, Nat.mul_one] at this; exact this
  have HC := Lib.hid hcs; have HRV := Lib.hid hRv; have HO := Lib.hid hone; have HL := Lib.hid hlen
  clear hcs hone hlen hB hRv hRm hRc hRi hRo hcm hcv hcc hci hco hAm hAv hAc hAi hAo h hi0 hz0 hs0 hb0
  go_enter Tryd.func9, Tryd.ntmps9
  go_upto_region 3 with fail
  refine wp_region_lit ?_
  refine Great.wpList_runTo rfl (some 8) rfl (.pointer (some ⟨b, off, none⟩)) w rfl ?_
  refine Great.wpList_runTo rfl (some 9) rfl (.pointer (some ⟨b, off, none⟩)) w rfl ?_
  refine wpList_load_mid rfl 27 (.tmp 9) rfl b off rfl (mcells M (.slice Am M.m.length cm) (.slice Av M.s.length cv) (.slice Ac M.calls.length cc) (.slice Ai M.inp.length ci) (.slice Ao M.out.length co)) _ HC.out (by exact Tryd.underlying27) rfl (by rw [info_mach, HL.out]) ?_
  refine Great.wpList_allocTo rfl (some 3) rfl (.pointer (some ⟨w.heap.size, 0, none⟩)) (.cells #[.int .i64 0, .int .i64 0, .int .i64 0, .int .i64 0, .int .i64 0, .int .i64 0, .int .i64 0, .int .i64 0, .int .i64 0, .int .i64 0, .int .i64 0, .int .i64 0, .int .i64 0, .int .i64 0, .int .i64 0, .int .i64 0, .int .i64 0, .int .i64 0, .slice none 0 0, .slice none 0 0, .slice none 0 0, .int .i64 0, .int .i64 0, .slice none 0 0, .slice none 0 0] 27) (by simp [execOp, Instr.alloc, newVar, Sem.run_bind, Value.cells, newRow]) ?_
  refine wpList_store_row rfl 27 (.tmp 3) (.tmp 10) rfl w.heap.size ((mcells M (.slice Am M.m.length cm) (.slice Av M.s.length cv) (.slice Ac M.calls.length cc) (.slice Ai M.inp.length ci) (.slice Ao M.out.length co))).toArray rfl rfl 27 #[.int .i64 0, .int .i64 0, .int .i64 0, .int .i64 0, .int .i64 0, .int .i64 0, .int .i64 0, .int .i64 0, .int .i64 0, .int .i64 0, .int .i64 0, .int .i64 0, .int .i64 0, .int .i64 0, .int .i64 0, .int .i64 0, .int .i64 0, .int .i64 0, .slice none 0 0, .slice none 0 0, .slice none 0 0, .int .i64 0, .int .i64 0, .slice none 0 0, .slice none 0 0] (heap_alloc_new w _) (by rw [info_mach]; simp [HL.out]) (by simp [HL.out]) (all_oneCell_toArray HO.out) ?_
  refine wpList_nil ?_
  rename_i K hK
  obtain ⟨w2, hw2⟩ : ∃ w2, w2 = (w.alloc (.cells #[.int .i64 0, .int .i64 0, .int .i64 0, .int .i64 0, .int .i64 0, .int .i64 0, .int .i64 0, .int .i64 0, .int .i64 0, .int .i64 0, .int .i64 0, .int .i64 0, .int .i64 0, .int .i64 0, .int .i64 0, .int .i64 0, .int .i64 0, .int .i64 0, .slice none 0 0, .slice none 0 0, .slice none 0 0, .int .i64 0, .int .i64 0, .slice none 0 0, .slice none 0 0] 27)).setRow w.heap.size ((mcells M (.slice Am M.m.length cm) (.slice Av M.s.length cv) (.slice Ac M.calls.length cc) (.slice Ai M.inp.length ci) (.slice Ao M.out.length co))).toArray := ⟨_, rfl⟩
  rw [← hw2]
  rw [World.setRow_alloc_new] at hw2
  have hb2 : Below w.heap.size w w2 := by rw [hw2]; exact (Below.refl _ w).alloc (Nat.le_refl _) _
  have hk2 : Blk w2 w.heap.size 27 ((mcells M (.slice Am M.m.length cm) (.slice Av M.s.length cv) (.slice Ac M.calls.length cc) (.slice Ai M.inp.length ci) (.slice Ao M.out.length co))).toArray := by rw [hw2]; exact Blk.new _ _ _
  clear hw2
  refine hK _ _ ?_
  clear hK
  have G := mc_get (M := M) (vm := .slice Am M.m.length cm) (vs := .slice Av M.s.length cv) (vc := .slice Ac M.calls.length cc) (vi := .slice Ai M.inp.length ci) (vo := .slice Ao M.out.length co) HM.out.rl
  have e18 := (HM.out.c 18 (by decide)).trans G.2.2.2.1; have e19 := (HM.out.c 19 (by decide)).trans G.2.2.2.2.1; have e20 := (HM.out.c 20 (by decide)).trans G.2.2.2.2.2.1; have e23 := (HM.out.c 23 (by decide)).trans G.2.2.2.2.2.2.2.2.1; have e24 := (HM.out.c 24 (by decide)).trans G.2.2.2.2.2.2.2.2.2.1
  clear G
  have HE18 := Lib.hid e18; have HE19 := Lib.hid e19; have HE20 := Lib.hid e20; have HE23 := Lib.hid e23; have HE24 := Lib.hid e24
  clear e18 e19 e20 e23 e24
  have E18 := (hb2.cell (p := ⟨b, off + 18, none⟩) hlt).trans HE18.out
  have HB2 := Lib.hid hb2
  have HK2 := Lib.hid hk2
  have H2 := Lib.hid (HM.out.next hb2)
  clear hb2 hk2
  simp only [Act.put]
  go_wp2_with fail
  refine (c_CloneI H2.out.m (by have := HB.out.ml; omega)).mono ?_
  rintro e w3 ⟨vm', rfl, ho3, hb3⟩
  have HB3 := Lib.hid (HB2.out.next (hb3))
  have HK3 := Lib.hid (HK2.out.next hb3)
  have HO3 := Lib.hid ho3
  have E18 := HK3.out.cell 18
  have F18 := HK3.out.frozen 18
  clear ho3 hb3
  obtain ⟨am', cm', rfl⟩ := own_form HO3.out
  have hgw : w.heap.size < w2.heap.size := HK2.out.lt
  obtain ⟨gm, gm0, gm1, gm2, hrow⟩ := Row.of_own HO3.out (intCells_length _) w.heap.size hgw HK3.out.lt
  have HROW := Lib.hid hrow
  clear hrow
  have hg3 : w.heap.size < w3.heap.size := HK3.out.lt
  simp only [List.getElem?_toArray, (mc_get (M := M) (vm := .slice Am M.m.length cm) (vs := .slice Av M.s.length cv) (vc := .slice Ac M.calls.length cc) (vi := .slice Ai M.inp.length ci) (vo := .slice Ao M.out.length co) HM.out.rl).2.2.2.1] at E18
  have E19 := HK3.out.cell 19
  have F19 := HK3.out.frozen 19
  simp only [List.getElem?_toArray, (mc_get (M := M) (vm := .slice Am M.m.length cm) (vs := .slice Av M.s.length cv) (vc := .slice Ac M.calls.length cc) (vi := .slice Ai M.inp.length ci) (vo := .slice Ao M.out.length co) HM.out.rl).2.2.2.2.1] at E19
  have A19 := (HB3.out.cell (p := ⟨b, off + 19, none⟩) hlt).trans HE19.out
  have hne : b ≠ w.heap.size := by omega
  have hms : M.s.length ≤ 16384 := HB.out.sl
  go_upto_region 6 with fail
  refine wp_nameY ?_
  intro w4 hw4
  have hI : ClInv w w3 w4 27 23 M (.slice am' M.m.length cm') (.slice Ac M.calls.length cc) (.slice Ai M.inp.length ci) (.slice Ao M.out.length co) gm M.s.length 0 := by
    have hB3 := HB3.out
    have k1 : Blk (w3.setCell ⟨w.heap.size, 18, none⟩ (.slice am' M.m.length cm')) w.heap.size 27 (mcells M (.slice am' M.m.length cm') (.slice Av M.s.length cv) (.slice Ac M.calls.length cc) (.slice Ai M.inp.length ci) (.slice Ao M.out.length co)).toArray := HK3.out.mset HM.out.rl 0 _
    have k2 : Blk ((w3.setCell ⟨w.heap.size, 18, none⟩ (.slice am' M.m.length cm')).setCell ⟨w.heap.size, 19, none⟩ (.slice (some ⟨w3.heap.size, 0, none⟩) M.s.length M.s.length)) w.heap.size 27 (mcells M (.slice am' M.m.length cm') (.slice (some ⟨w3.heap.size, 0, none⟩) M.s.length M.s.length) (.slice Ac M.calls.length cc) (.slice Ai M.inp.length ci) (.slice Ao M.out.length co)).toArray := k1.mset HM.out.rl 1 _
    refine ⟨by rw [hw4]; exact (by go_grown), by rw [hw4]; exact k2.alloc _, HROW.out.keep fun hn => ?_, by rw [hw4]; simp [World.setCell], (madeCells #[.slice none 0 0] M.s.length).toList, by simp [size_madeCells], ?_, fun k hk => by omega⟩
    · have g := gm2 hn
      rw [hw4]
      exact (Below.heap_alloc _ _ _ (by simp [World.setCell]; omega)).trans ((Below.heap_setCell _ ⟨w.heap.size, 19, none⟩ _ _ g).trans (Below.heap_setCell _ ⟨w.heap.size, 18, none⟩ _ _ g))
    · rw [hw4, Array.toArray_toList]
      exact Blk.new' (by simp [World.setCell]) _ _
  clear hw4 E18 F18 E19 F19 A19 mk0
  have HI := Lib.hid hI
  have A19 := (HI.out.b.cell (p := ⟨b, off + 19, none⟩) hlt).trans HE19.out
  clear hI
  go_wp2_with fail
  go_loopw [29] (fun v wr => ∃ j : Nat, j ≤ M.s.length ∧ v = .int .i64 j ∧ ClInv w w3 wr 27 23 M (.slice am' M.m.length cm') (.slice Ac M.calls.length cc) (.slice Ai M.inp.length ci) (.slice Ao M.out.length co) gm M.s.length j) (fun v _ => M.s.length - (intOf v).toNat)
  case atStart => exact ⟨0, Nat.zero_le _, rfl, HI.out⟩
  case round =>
    obtain ⟨j, hj, rfl, hI⟩ := hrel
    have HJ := Lib.hid hI
    clear A19 hI
    by_cases hlt' : j < M.s.length
    · obtain ⟨bs, os, rfl, hds, hcell⟩ := HRV.out.2 (by omega)
      obtain ⟨u, hu, hsl⟩ := HM.out.l.1.2 j hlt'
      have hbs : bs < w.heap.size := HM.out.d _ hds
      have cu := (HJ.out.b.cell (p := ⟨bs, os + j, none⟩) hbs).trans (hcell j u hu)
      have HSl := Lib.hid (hsl.keep (fun b o hd => HJ.out.b.cell (p := ⟨b, o, none⟩) (HM.out.d _ hd)) (D' := (· < wr.heap.size)) (fun k hk => Nat.lt_of_lt_of_le (HM.out.d k hk) HJ.out.b.size))
      have hlen' : (M.s.getD j []).length ≤ 20000000000000 := HB.out.st _ (getD_mem hlt')
      obtain ⟨lj, hlj⟩ : ∃ l, l = M.s.getD j [] := ⟨_, rfl⟩
      rw [← hlj] at hsl HSl hlen'
      have HLJ := Lib.hid hlj
      clear hlj
      obtain ⟨Au, cc', rfl, _⟩ := hsl
      have cg := HJ.out.k.cell 19
      simp only [List.getElem?_toArray, (mc_get (M := M) (vm := .slice am' M.m.length cm') (vs := .slice (some ⟨w3.heap.size, 0, none⟩) M.s.length M.s.length) (vc := .slice Ac M.calls.length cc) (vi := .slice Ai M.inp.length ci) (vo := .slice Ao M.out.length co) HM.out.rl).2.2.2.2.1] at cg
      have j0 : (0 : Int) ≤ (j : Int) := by omega
      have j1 : (j : Int) < (M.s.length : Int) := by omega
      have hw3r : w3.heap.size < wr.heap.size := HJ.out.l
      clear hcell hu hds
      have hgmr : gm < wr.heap.size := by omega
      go_upto_region 9 with fail
      go_region_held3 (fun w' => w'.cell? ⟨w.heap.size, 19, none⟩ = some (.slice (some ⟨w3.heap.size, 0, none⟩) M.s.length M.s.length)) (go_simp) (first | (go_at_call 33; ((with_reducible refine (c_CloneI (HSl.out.keep (D' := (· < wr.heap.size)) (fun b' o hd => cell_up hd (by go_grown)) (fun _ h => h)) (by omega)).mono ?_); rintro e w5 ⟨u', rfl, ho5, hb5⟩; have hB5 : Below wr.heap.size wr w5 := Below.trans (by go_grown) (hb5.mono (by go_size)); have HJ5 := Lib.hid (HJ.out.next hB5 hgmr); obtain ⟨old, co, fo⟩ := HJ5.out.cell j hlt'; have HO5 := Lib.hid (Sl.own ho5 (B := w3.heap.size) (by go_size)); obtain ⟨a5, c5, rfl⟩ := own_form ho5; have cg5 := HJ5.out.c19 HM.out.rl; clear ho5 hb5 hB5)))
      all_goals (go_wp2_with fail; exact ⟨⟨j + 1, by omega, by go_num, HJ5.out.put hg3 gm1 _ hlt' (by rw [← HLJ.out]; exact HO5.out)⟩, by simp [intOf]; omega⟩)
    · obtain rfl : j = M.s.length := by omega
      have A20 := (HJ.out.b.cell (p := ⟨b, off + 20, none⟩) hlt).trans HE20.out
      go_wp2_with fail
      refine (c_CloneA (HM.out.next HJ.out.b).l.2.1 (by have := HB.out.cl; omega)).mono ?_
      rintro e w5 ⟨vc', rfl, ho5, hb5⟩
      have hgmr : gm < wr.heap.size := by have := HJ.out.l; omega
      have hgm5 : gm < w5.heap.size := by have := hb5.size; omega
      have HJ5 := Lib.hid (HJ.out.next hb5 hgmr)
      have HO5 := Lib.hid (Sl.own ho5 (B := w3.heap.size) HJ.out.l)
      obtain ⟨a5, c5, rfl⟩ := own_form ho5
      have E20 := HJ5.out.k.cell 20
      have F20 := HJ5.out.k.frozen 20
      simp only [List.getElem?_toArray, (mc_get (M := M) (vm := .slice am' M.m.length cm') (vs := .slice (some ⟨w3.heap.size, 0, none⟩) M.s.length M.s.length) (vc := .slice Ac M.calls.length cc) (vi := .slice Ai M.inp.length ci) (vo := .slice Ao M.out.length co) HM.out.rl).2.2.2.2.2.1] at E20
      have A23 := (HJ5.out.b.cell (p := ⟨b, off + 23, none⟩) hlt).trans HE23.out
      clear A20 ho5 hb5
      go_wp2_with fail
      refine calls_nameY ?_
      intro w6 hw6
      have HJ6 := Lib.hid (HJ5.out.top HM.out.rl hg3 gm2 2 (.slice a5 M.calls.length c5) rfl); simp only [Nat.reduceAdd] at HJ6
      have HO6 := Lib.hid (HO5.out.farset (g := w.heap.size) (o := 20) (u := .slice a5 M.calls.length c5) (by omega))
      rw [← hw6] at HJ6 HO6
      have hgm6 : gm < w6.heap.size := by rw [hw6]; simpa [World.setCell] using hgm5
      clear hw6 E20 F20 A23
      refine (c_CloneI (HM.out.next HJ6.out.b).l.2.2.1 (by have := HB.out.il; omega)).mono ?_
      rintro e w7 ⟨vi', rfl, ho7, hb7⟩
      have hgm7 : gm < w7.heap.size := by have := hb7.size; omega
      have HJ7 := Lib.hid (HJ6.out.next hb7 hgm6)
      have HO7 := Lib.hid (HO6.out.upB hb7)
      have HI7 := Lib.hid (Sl.own ho7 (B := w3.heap.size) HJ6.out.l)
      obtain ⟨a7, c7, rfl⟩ := own_form ho7
      have E23 := HJ7.out.k.cell 23
      have F23 := HJ7.out.k.frozen 23
      simp only [List.getElem?_toArray, (mc_get (M := M) (vm := .slice am' M.m.length cm') (vs := .slice (some ⟨w3.heap.size, 0, none⟩) M.s.length M.s.length) (vc := .slice a5 M.calls.length c5) (vi := .slice Ai M.inp.length ci) (vo := .slice Ao M.out.length co) HM.out.rl).2.2.2.2.2.2.2.2.1] at E23
      have A24 := (HJ7.out.b.cell (p := ⟨b, off + 24, none⟩) hlt).trans HE24.out
      clear ho7 hb7
      go_wp2_with fail
      refine calls_nameY ?_
      intro w8 hw8
      have HJ8 := Lib.hid (HJ7.out.top HM.out.rl hg3 gm2 5 (.slice a7 M.inp.length c7) rfl); simp only [Nat.reduceAdd] at HJ8
      have HO8 := Lib.hid (HO7.out.farset (g := w.heap.size) (o := 23) (u := .slice a7 M.inp.length c7) (by omega))
      have HI8 := Lib.hid (HI7.out.farset (g := w.heap.size) (o := 23) (u := .slice a7 M.inp.length c7) (by omega))
      rw [← hw8] at HJ8 HO8 HI8
      have hgm8 : gm < w8.heap.size := by rw [hw8]; simpa [World.setCell] using hgm7
      clear hw8 E23 F23 A24
      refine (c_CloneI (HM.out.next HJ8.out.b).l.2.2.2 (by have := HB.out.ol; omega)).mono ?_
      rintro e w9 ⟨vo', rfl, ho9, hb9⟩
      have HJ9 := Lib.hid (HJ8.out.next hb9 hgm8)
      have HO9 := Lib.hid (HO8.out.upB hb9)
      have HI9 := Lib.hid (HI8.out.upB hb9)
      have HU9 := Lib.hid (Sl.own ho9 (B := w3.heap.size) HJ8.out.l)
      obtain ⟨a9, c9, rfl⟩ := own_form ho9
      have E24 := HJ9.out.k.cell 24
      have F24 := HJ9.out.k.frozen 24
      simp only [List.getElem?_toArray, (mc_get (M := M) (vm := .slice am' M.m.length cm') (vs := .slice (some ⟨w3.heap.size, 0, none⟩) M.s.length M.s.length) (vc := .slice a5 M.calls.length c5) (vi := .slice a7 M.inp.length c7) (vo := .slice Ao M.out.length co) HM.out.rl).2.2.2.2.2.2.2.2.2.1] at E24
      clear ho9 hb9
      go_wp2_with fail
      go_ret
      exact (HJ9.out.top HM.out.rl hg3 gm2 6 (.slice a9 M.out.length c9) rfl).done HM.out.rl hg3 gm0 gm1 gm2 (HO9.out.farset (by omega)) (HI9.out.farset (by omega)) (HU9.out.farset (by omega))
end Go.Proofs.YteenmpjjaheggaaDoor

/- slices.Equal at []int and []Activation. -/
set_option maxRecDepth 100000
set_option maxHeartbeats 8000000
set_option linter.unusedVariables false
namespace Go.Proofs.YteenmpjjaheggaaDoor
open Go.RowKit Bk

theorem neq_act (W : World) (a a' : Int) (b b' : Bool) :
    (binOp .neq 39 (.agg #[.int .i64 a, .bool b]) (.agg #[.int .i64 a', .bool b'])).run Tryd.prog W = .ok (.bool (!decide ((a, b) = (a', b')))) W := by
  by_cases e0 : a = a'
  · by_cases e1 : b = b'
    · simp [go_sem, e0, e1]
    · simp [go_sem, e0, e1]
  · simp [go_sem, e0]
theorem neq_int (W : World) (a a' : Int) : (binOp .neq 3 (.int .i64 a) (.int .i64 a')).run Tryd.prog W = .ok (.bool (!decide (a = a'))) W := by
  by_cases e0 : a = a'
  · simp [go_sem, e0]
  · simp [go_sem, e0]
theorem Sl.some_ {w : World} {D : Nat → Prop} {sz n : Nat} {v : Value} {xs : List Value} (h : Sl w D sz v n xs) (hn : 0 < n) : ∃ b off cap, v = .slice (some ⟨b, off, none⟩) n cap ∧ D b ∧ ∀ j u, xs[j]? = some u → w.cell? ⟨b, off + j, none⟩ = some u := by
  obtain ⟨A, cap, rfl, _, _, h3⟩ := h
  obtain ⟨b, off, rfl, hd, hc⟩ := h3.2 hn
  exact ⟨b, off, cap, rfl, hd, hc⟩

theorem c_EqI {w : World} {D D' : Nat → Prop} {v v' : Value} {l l' : List Int} (h : Sl w D 1 v l.length (intCells l)) (h' : Sl w D' 1 v' l'.length (intCells l')) (hD : ∀ k, D k → k < w.heap.size) (hD' : ∀ k, D' k → k < w.heap.size) (hmax : l.length ≤ 20000000000000) (hmax' : l'.length ≤ 20000000000000) :
    Calls Tryd.prog 35 #[v, v'] w fun e w' => e = .returned (.bool (decide (l = l'))) ∧ Below w.heap.size w w' := by
  have HS := Lib.hid h; have HS' := Lib.hid h'
  obtain ⟨A, cap, rfl, _⟩ := h
  obtain ⟨A', cap', rfl, _⟩ := h'
  by_cases hll : l.length = l'.length
  · have hnn : ((l.length : Int) != (l.length : Int)) = false := by simp
    obtain ⟨n, hn⟩ : ∃ n, n = l.length := ⟨_, rfl⟩
    obtain ⟨r, hr⟩ : ∃ r, r = decide (l = l') := ⟨_, rfl⟩
    rw [← hr]
    rw [← hll]
    rw [← hn] at hnn hmax ⊢
    have HN := Lib.hid hn; have HR := Lib.hid hr; have HLL := Lib.hid hll
    clear hn hr hll hmax'
    go_enter Tryd.func35, Tryd.ntmps35
    go_wp2_with fail
    go_loopw [13] (fun v13 wr => ∃ i : Nat, i ≤ n ∧ v13 = .int .i64 i ∧ (∀ k, k < i → l.getD k 0 = l'.getD k 0) ∧ Below w.heap.size w wr) (fun i _ => n - (intOf i).toNat)
    case atStart => exact ⟨0, Nat.zero_le _, rfl, fun k hk => absurd hk (Nat.not_lt_zero _), by go_grown⟩
    case round =>
      obtain ⟨j, hi, rfl, hz, hB⟩ := hrel
      have HZ := Lib.hid hz; clear hz
      by_cases hlt' : j < n
      · have hlt : j < l.length := HN.out ▸ hlt'
        have hll := HLL.out
        obtain ⟨bx, ox, cpx, ex, hdx, hcx⟩ := Sl.some_ HS.out (by omega)
        obtain ⟨by', oy, cpy, ey, hdy, hcy⟩ := Sl.some_ HS'.out (by omega)
        obtain ⟨rfl, -, -⟩ : A = some ⟨bx, ox, none⟩ ∧ True ∧ True := ⟨by injection ex, trivial, trivial⟩
        obtain ⟨rfl, -, -⟩ : A' = some ⟨by', oy, none⟩ ∧ True ∧ True := ⟨by injection ey, trivial, trivial⟩
        have cx := (hB.cell (p := ⟨bx, ox + j, none⟩) (hD _ hdx)).trans (hcx _ _ (intCells_get l j hlt))
        have cy := (hB.cell (p := ⟨by', oy + j, none⟩) (hD' _ hdy)).trans (hcy _ _ (intCells_get l' j (hll ▸ hlt)))
        clear hcx hcy ex ey hll hlt
        generalize hx : l.getD j 0 = x at *
        generalize hy : l'.getD j 0 = y at *
        have HX := Lib.hid hx; have HY := Lib.hid hy; clear hx hy
        obtain ⟨z, hv⟩ : ∃ z, (x != y) = z := ⟨_, rfl⟩
        have HV := Lib.hid hv
        have hbx : bx < wr.heap.size := by have := hB.size; have := hD _ hdx; omega
        have hby : by' < wr.heap.size := by have := hB.size; have := hD' _ hdy; omega
        cases z with
        | true =>
          go_wp2_with fail
          go_quiet (fail)
          go_wp2_with fail
          go_ret
          refine ⟨ret_bool ?_, by repeat' (first | (with_reducible assumption) | (with_reducible exact Below.refl _ _) | (with_reducible refine Below.alloc ?_ ?_ _) | (with_reducible refine Bk.drewN_ ?_ _) | (with_reducible refine Below.drew ?_) | (with_reducible refine Below.setCell ?_ ?_ _) | go_size)⟩
          rw [HR.out]
          symm
          rw [decide_eq_false_iff_not]
          intro e
          have := HV.out
          have hxy : x = y := by rw [← HX.out, ← HY.out, e]
          subst hxy
          simp at this
        | false =>
          have hxy : x = y := by
            have := HV.out
            simpa [Prod.ext_iff] using this
          go_wp2_with fail
          go_quiet (fail)
          go_wp2_with fail
          exact ⟨⟨j + 1, by omega, by go_num, fun k hk => (Nat.lt_succ_iff_lt_or_eq.1 hk).elim (HZ.out k) (fun e => by subst e; rw [HX.out, HY.out, hxy]), by repeat' (first | (with_reducible assumption) | (with_reducible exact Below.refl _ _) | (with_reducible refine Below.alloc ?_ ?_ _) | (with_reducible refine Bk.drewN_ ?_ _) | (with_reducible refine Below.drew ?_) | (with_reducible refine Below.setCell ?_ ?_ _) | go_size)⟩, by simp [intOf]; omega⟩
      · obtain rfl : n = j := by omega
        have hcd : l = l' := by
          apply List.ext_getElem HLL.out
          intro k h1 h2
          have := HZ.out k (by rw [HN.out]; exact h1)
          simpa [List.getD_eq_getElem?_getD, h1, h2] using this
        go_wp2_with fail
        go_ret
        exact ⟨ret_bool (by rw [HR.out]; simp [hcd]), by go_grown⟩
  · have hnn : ((l.length : Int) != (l'.length : Int)) = true := by simp; omega
    have hr : decide (l = l') = false := by rw [decide_eq_false_iff_not]; intro e; exact hll (by rw [e])
    rw [hr]
    clear hr HS HS'
    go_enter Tryd.func35, Tryd.ntmps35
    go_wp2_with fail
    go_ret
    exact ⟨rfl, by go_grown⟩

theorem c_EqA {w : World} {D D' : Nat → Prop} {v v' : Value} {l l' : List (Int × Bool)} (h : Sl w D 2 v l.length (actCells l)) (h' : Sl w D' 2 v' l'.length (actCells l')) (hD : ∀ k, D k → k < w.heap.size) (hD' : ∀ k, D' k → k < w.heap.size) (hmax : l.length ≤ 20000000000000) (hmax' : l'.length ≤ 20000000000000) :
    Calls Tryd.prog 38 #[v, v'] w fun e w' => e = .returned (.bool (decide (l = l'))) ∧ Below w.heap.size w w' := by
  have HS := Lib.hid h; have HS' := Lib.hid h'
  obtain ⟨A, cap, rfl, _⟩ := h
  obtain ⟨A', cap', rfl, _⟩ := h'
  by_cases hll : l.length = l'.length
  · have hnn : ((l.length : Int) != (l.length : Int)) = false := by simp
    obtain ⟨n, hn⟩ : ∃ n, n = l.length := ⟨_, rfl⟩
    obtain ⟨r, hr⟩ : ∃ r, r = decide (l = l') := ⟨_, rfl⟩
    rw [← hr]
    rw [← hll]
    rw [← hn] at hnn hmax ⊢
    have HN := Lib.hid hn; have HR := Lib.hid hr; have HLL := Lib.hid hll
    clear hn hr hll hmax'
    go_enter Tryd.func38, Tryd.ntmps38
    go_wp2_with fail
    go_loopw [13] (fun v13 wr => ∃ i : Nat, i ≤ n ∧ v13 = .int .i64 i ∧ (∀ k, k < i → l.getD k (0, false) = l'.getD k (0, false)) ∧ Below w.heap.size w wr) (fun i _ => n - (intOf i).toNat)
    case atStart => exact ⟨0, Nat.zero_le _, rfl, fun k hk => absurd hk (Nat.not_lt_zero _), by go_grown⟩
    case round =>
      obtain ⟨j, hi, rfl, hz, hB⟩ := hrel
      have HZ := Lib.hid hz; clear hz
      by_cases hlt' : j < n
      · have hlt : j < l.length := HN.out ▸ hlt'
        have hll := HLL.out
        obtain ⟨bx, ox, cpx, ex, hdx, hcx⟩ := Sl.some_ HS.out (by omega)
        obtain ⟨by', oy, cpy, ey, hdy, hcy⟩ := Sl.some_ HS'.out (by omega)
        obtain ⟨rfl, -, -⟩ : A = some ⟨bx, ox, none⟩ ∧ True ∧ True := ⟨by injection ex, trivial, trivial⟩
        obtain ⟨rfl, -, -⟩ : A' = some ⟨by', oy, none⟩ ∧ True ∧ True := ⟨by injection ey, trivial, trivial⟩
        obtain ⟨gx0, gx1⟩ := actCells_get l j hlt
        obtain ⟨gy0, gy1⟩ := actCells_get l' j (hll ▸ hlt)
        have cx := (hB.cell (p := ⟨bx, ox + j * 2, none⟩) (hD _ hdx)).trans (hcx _ _ gx0)
        have cx1 := (hB.cell (p := ⟨bx, ox + (j * 2 + 1), none⟩) (hD _ hdx)).trans (hcx _ _ gx1)
        have cy := (hB.cell (p := ⟨by', oy + j * 2, none⟩) (hD' _ hdy)).trans (hcy _ _ gy0)
        have cy1 := (hB.cell (p := ⟨by', oy + (j * 2 + 1), none⟩) (hD' _ hdy)).trans (hcy _ _ gy1)
        rw [← Nat.add_assoc] at cx1 cy1
        clear gx0 gx1 gy0 gy1
        clear hcx hcy ex ey hll hlt
        generalize hx : l.getD j (0, false) = x at *
        generalize hy : l'.getD j (0, false) = y at *
        have HX := Lib.hid hx; have HY := Lib.hid hy; clear hx hy
        have hneq := fun W => neq_act W x.1 y.1 x.2 y.2
        obtain ⟨z, hv⟩ : ∃ z, (!decide ((x.1, x.2) = (y.1, y.2))) = z := ⟨_, rfl⟩
        simp only [hv] at hneq
        have HV := Lib.hid hv; clear hv
        have hbx : bx < wr.heap.size := by have := hB.size; have := hD _ hdx; omega
        have hby : by' < wr.heap.size := by have := hB.size; have := hD' _ hdy; omega
        go_wp2_with fail
        go_quiet (fail)
        cases z with
        | true =>
          go_wp2_with fail
          go_ret
          refine ⟨ret_bool ?_, by repeat' (first | (with_reducible assumption) | (with_reducible exact Below.refl _ _) | (with_reducible refine Below.alloc ?_ ?_ _) | (with_reducible refine Bk.drewN_ ?_ _) | (with_reducible refine Below.drew ?_) | (with_reducible refine Below.setCell ?_ ?_ _) | go_size)⟩
          rw [HR.out]
          symm
          rw [decide_eq_false_iff_not]
          intro e
          have := HV.out
          have hxy : x = y := by rw [← HX.out, ← HY.out, e]
          subst hxy
          simp at this
        | false =>
          have hxy : x = y := by
            have := HV.out
            simpa [Prod.ext_iff] using this
          go_wp2_with fail
          exact ⟨⟨j + 1, by omega, by go_num, fun k hk => (Nat.lt_succ_iff_lt_or_eq.1 hk).elim (HZ.out k) (fun e => by subst e; rw [HX.out, HY.out, hxy]), by repeat' (first | (with_reducible assumption) | (with_reducible exact Below.refl _ _) | (with_reducible refine Below.alloc ?_ ?_ _) | (with_reducible refine Bk.drewN_ ?_ _) | (with_reducible refine Below.drew ?_) | (with_reducible refine Below.setCell ?_ ?_ _) | go_size)⟩, by simp [intOf]; omega⟩
      · obtain rfl : n = j := by omega
        have hcd : l = l' := by
          apply List.ext_getElem HLL.out
          intro k h1 h2
          have := HZ.out k (by rw [HN.out]; exact h1)
          simpa [List.getD_eq_getElem?_getD, h1, h2] using this
        go_wp2_with fail
        go_ret
        exact ⟨ret_bool (by rw [HR.out]; simp [hcd]), by go_grown⟩
  · have hnn : ((l.length : Int) != (l'.length : Int)) = true := by simp; omega
    have hr : decide (l = l') = false := by rw [decide_eq_false_iff_not]; intro e; exact hll (by rw [e])
    rw [hr]
    clear hr HS HS'
    go_enter Tryd.func38, Tryd.ntmps38
    go_wp2_with fail
    go_ret
    exact ⟨rfl, by go_grown⟩

end Go.Proofs.YteenmpjjaheggaaDoor

/- slices.EqualFunc at lists of stacks. -/
set_option maxRecDepth 100000
set_option maxHeartbeats 8000000
set_option linter.unusedVariables false
namespace Go.Proofs.YteenmpjjaheggaaDoor
open Go.RowKit Bk

theorem c_Eq1 {w : World} {D D' : Nat → Prop} {v v' : Value} {l l' : List Int} (h : Sl w D 1 v l.length (intCells l)) (h' : Sl w D' 1 v' l'.length (intCells l')) (hD : ∀ k, D k → k < w.heap.size) (hD' : ∀ k, D' k → k < w.heap.size) (hmax : l.length ≤ 20000000000000) (hmax' : l'.length ≤ 20000000000000) :
    Calls Tryd.prog 37 #[v, v'] w fun e w' => e = .returned (.bool (decide (l = l'))) ∧ Below w.heap.size w w' := by
  have HS := Lib.hid h; have HS' := Lib.hid h'
  obtain ⟨r, hr⟩ : ∃ r, r = decide (l = l') := ⟨_, rfl⟩
  rw [← hr]
  have HR := Lib.hid hr
  clear hr h h'
  go_enter Tryd.func37, Tryd.ntmps37
  go_wp2_with fail
  refine (c_EqI HS.out HS'.out hD hD' hmax hmax').mono ?_
  rw [← HR.out]
  rintro e w2 ⟨rfl, hb2⟩
  go_wp2_with fail
  go_ret
  exact ⟨rfl, hb2⟩

theorem c_EqF {w : World} {D D' : Nat → Prop} {v v' : Value} {sv sv' : List Value} {ss ss' : List (List Int)} (h : Sl w D 1 v ss.length sv) (h' : Sl w D' 1 v' ss'.length sv') (hs : SvRd w D sv ss) (hs' : SvRd w D' sv' ss') (hD : ∀ k, D k → k < w.heap.size) (hD' : ∀ k, D' k → k < w.heap.size)
    (hmax : ss.length ≤ 20000000000000) (hmax' : ss'.length ≤ 20000000000000) (hl : ∀ l ∈ ss, l.length ≤ 20000000000000) (hl' : ∀ l ∈ ss', l.length ≤ 20000000000000) :
    Calls Tryd.prog 36 #[v, v', .func (.func 37) #[] #[]] w fun e w' => e = .returned (.bool (decide (ss = ss'))) ∧ Below w.heap.size w w' := by
  have HS := Lib.hid h; have HS' := Lib.hid h'; have HV := Lib.hid hs; have HV' := Lib.hid hs'; have HL := Lib.hid hl; have HL' := Lib.hid hl'
  clear hs hs' hl hl'
  obtain ⟨A, cap, rfl, _⟩ := h
  obtain ⟨A', cap', rfl, _⟩ := h'
  by_cases hll : ss.length = ss'.length
  · have hnn : ((ss.length : Int) != (ss.length : Int)) = false := by simp
    obtain ⟨n, hn⟩ : ∃ n, n = ss.length := ⟨_, rfl⟩
    obtain ⟨r, hr⟩ : ∃ r, r = decide (ss = ss') := ⟨_, rfl⟩
    rw [← hr]
    rw [← hll]
    rw [← hn] at hnn hmax ⊢
    have HN := Lib.hid hn; have HR := Lib.hid hr; have HLL := Lib.hid hll
    clear hn hr hll hmax'
    go_enter Tryd.func36, Tryd.ntmps36
    go_wp2_with fail
    go_loopw [17] (fun v13 wr => ∃ i : Nat, i ≤ n ∧ v13 = .int .i64 i ∧ (∀ k, k < i → ss.getD k [] = ss'.getD k []) ∧ Below w.heap.size w wr) (fun i _ => n - (intOf i).toNat)
    case atStart => exact ⟨0, Nat.zero_le _, rfl, fun k hk => absurd hk (Nat.not_lt_zero _), by go_grown⟩
    case round =>
      obtain ⟨j, hi, rfl, hz, hB⟩ := hrel
      have HZ := Lib.hid hz; clear hz
      by_cases hlt' : j < n
      · have hlt : j < ss.length := HN.out ▸ hlt'
        have hlt2 : j < ss'.length := HLL.out ▸ hlt
        obtain ⟨bx, ox, cpx, ex, hdx, hcx⟩ := Sl.some_ HS.out (by omega)
        obtain ⟨by', oy, cpy, ey, hdy, hcy⟩ := Sl.some_ HS'.out (by omega)
        obtain ⟨rfl, -, -⟩ : A = some ⟨bx, ox, none⟩ ∧ True ∧ True := ⟨by injection ex, trivial, trivial⟩
        obtain ⟨rfl, -, -⟩ : A' = some ⟨by', oy, none⟩ ∧ True ∧ True := ⟨by injection ey, trivial, trivial⟩
        obtain ⟨ux, hux, slx⟩ := HV.out.2 j hlt
        obtain ⟨uy, huy, sly⟩ := HV'.out.2 j hlt2
        have cx := (hB.cell (p := ⟨bx, ox + j, none⟩) (hD _ hdx)).trans (hcx _ _ hux)
        have cy := (hB.cell (p := ⟨by', oy + j, none⟩) (hD' _ hdy)).trans (hcy _ _ huy)
        have HSX := Lib.hid (slx.keep (fun b o hd => hB.cell (p := ⟨b, o, none⟩) (hD _ hd)) (D' := D) (fun _ h => h))
        have HSY := Lib.hid (sly.keep (fun b o hd => hB.cell (p := ⟨b, o, none⟩) (hD' _ hd)) (D' := D') (fun _ h => h))
        have hlx := HL.out _ (getD_mem hlt)
        have hly := HL'.out _ (getD_mem hlt2)
        clear hcx hcy ex ey hlt hlt2 hux huy
        generalize hx : ss.getD j [] = x at *
        generalize hy : ss'.getD j [] = y at *
        have HX := Lib.hid hx; have HY := Lib.hid hy; clear hx hy
        obtain ⟨Ax, cpx', rfl, _⟩ := slx
        obtain ⟨Ay, cpy', rfl, _⟩ := sly
        obtain ⟨z, hv⟩ : ∃ z, decide (x = y) = z := ⟨_, rfl⟩
        have HZZ := Lib.hid hv
        clear hv
        have hbx : bx < wr.heap.size := by have := hB.size; have := hD _ hdx; omega
        have hby : by' < wr.heap.size := by have := hB.size; have := hD' _ hdy; omega
        go_wp2_with fail
        refine (c_Eq1 HSX.out HSY.out (fun k hk => Nat.lt_of_lt_of_le (hD k hk) hB.size) (fun k hk => Nat.lt_of_lt_of_le (hD' k hk) hB.size) hlx hly).mono ?_
        rw [HZZ.out]
        rintro e w2 ⟨rfl, hb2⟩
        have hB2 : Below w.heap.size w w2 := hB.next hb2
        clear hb2
        cases z with
        | false =>
          go_wp2_with fail
          go_ret
          refine ⟨ret_bool ?_, hB2⟩
          rw [HR.out]
          symm
          rw [decide_eq_false_iff_not]
          intro e
          have hxy : x = y := by rw [← HX.out, ← HY.out, e]
          exact of_decide_eq_false HZZ.out hxy
        | true =>
          have hxy : x = y := of_decide_eq_true HZZ.out
          go_wp2_with fail
          exact ⟨⟨j + 1, by omega, by go_num, fun k hk => (Nat.lt_succ_iff_lt_or_eq.1 hk).elim (HZ.out k) (fun e => by subst e; rw [HX.out, HY.out, hxy]), hB2⟩, by simp [intOf]; omega⟩
      · obtain rfl : n = j := by omega
        have hcd : ss = ss' := by
          apply List.ext_getElem HLL.out
          intro k h1 h2
          have := HZ.out k (by rw [HN.out]; exact h1)
          simpa [List.getD_eq_getElem?_getD, h1, h2] using this
        go_wp2_with fail
        go_ret
        exact ⟨ret_bool (by rw [HR.out]; simp [hcd]), by go_grown⟩
  · have hnn : ((ss.length : Int) != (ss'.length : Int)) = true := by simp; omega
    have hr : decide (ss = ss') = false := by rw [decide_eq_false_iff_not]; intro e; exact hll (by rw [e])
    rw [hr]
    clear hr HS HS'
    go_enter Tryd.func36, Tryd.ntmps36
    go_wp2_with fail
    go_ret
    exact ⟨rfl, by go_grown⟩
end Go.Proofs.YteenmpjjaheggaaDoor

/- Machines by value and in regions that draw: whole structs and arrays loaded; arrays compared; a machine's lists apart from its cells. -/
set_option linter.unusedVariables false
namespace Bk
open Go Go.RowKit

theorem run_part_int {P : Program} {e : TypeId} (he : P.underlying e = some (.int .i64)) {cs : Array Value} {k : Nat} {v : Value} (hk : cs[k]? = some v) (w : World) : (part e cs k).run P w = .ok v w := by
  simp [part, isAgg, Sem.run_bind, run_underlying he, hk]
theorem run_eqItems_ints {P : Program} (d : Nat) {e : TypeId} (he : P.underlying e = some (.int .i64)) (r r' : List Int) (w : World) : ∀ is : List Nat, (∀ i ∈ is, i < r.length ∧ i < r'.length) →
    (Op.eqItems (d + 1) e 1 (intCells r).toArray (intCells r').toArray is).run P w = .ok (decide (∀ i ∈ is, r.getD i 0 = r'.getD i 0)) w
  | [], _ => by simp [Op.eqItems]
  | i :: is, h => by
    have h1 := h i (by simp)
    have g1 : (intCells r).toArray[i * 1]? = some (.int .i64 (r.getD i 0)) := by rw [Nat.mul_one, List.getElem?_toArray, intCells_get _ _ h1.1]
    have g2 : (intCells r').toArray[i * 1]? = some (.int .i64 (r'.getD i 0)) := by rw [Nat.mul_one, List.getElem?_toArray, intCells_get _ _ h1.2]
    simp only [Op.eqItems, Sem.run_bind, run_part_int he g1, run_part_int he g2, Result.andThen_ok, run_equalIn_int (P := P) (h := he)]
    by_cases hv : r.getD i 0 = r'.getD i 0
    · have hb : (r.getD i 0 == r'.getD i 0) = true := by simpa using hv
      rw [hb]
      simp only [Bool.not_true, Bool.false_eq_true, if_false]
      rw [run_eqItems_ints d he r r' w is fun j hj => h j (by simp [hj])]
      congr 1
      simp only [decide_eq_decide, List.mem_cons, forall_eq_or_imp]
      exact ⟨fun h => ⟨hv, h⟩, fun h => h.2⟩
    · have hb : (r.getD i 0 == r'.getD i 0) = false := by simpa using hv
      rw [hb]
      simp only [Bool.not_false, if_true, Sem.run_pure]
      congr 1
      symm
      simp only [decide_eq_false_iff_not, List.mem_cons, forall_eq_or_imp]
      exact fun h => hv h.1
theorem list_ext_getD {r r' : List Int} {n : Nat} (h : r.length = n) (h' : r'.length = n) : (∀ i ∈ List.range n, r.getD i 0 = r'.getD i 0) ↔ r = r' := by
  constructor
  · intro hh
    refine List.ext_getElem (by omega) fun i h1 h2 => ?_
    have := hh i (List.mem_range.2 (by omega))
    simpa [List.getD_eq_getElem?_getD, h1, h2] using this
  · rintro rfl; intros; rfl
/-- Arrays of numbers are compared. -/
theorem run_eq_arr {P : Program} {t e : TypeId} {n : Nat} {i : TypeInfo} (hu : P.underlying t = some (.array n e)) (he : P.underlying e = some (.int .i64)) (hi : P.info? e = some i) (hc : P.cellsOf e = 1) {r r' : List Int} (h : r.length = n) (h' : r'.length = n) (w : World) :
    (binOp .eql t (.agg (intCells r).toArray) (.agg (intCells r').toArray)).run P w = .ok (.bool (decide (r = r'))) w := by
  have := run_equalIn_array (P := P) (w := w) 9999 (t := t) (intCells r).toArray (intCells r').toArray hu hi
  rw [hc, run_eqItems_ints 9998 he r r' w _ (fun j hj => by have := List.mem_range.1 hj; omega)] at this
  have e : decide (∀ i ∈ List.range n, r.getD i 0 = r'.getD i 0) = decide (r = r') := by rw [decide_eq_decide]; exact list_ext_getD h h'
  rw [e] at this
  simp [go_sem, this]
theorem run_ne_arr {P : Program} {t e : TypeId} {n : Nat} {i : TypeInfo} (hu : P.underlying t = some (.array n e)) (he : P.underlying e = some (.int .i64)) (hi : P.info? e = some i) (hc : P.cellsOf e = 1) {r r' : List Int} (h : r.length = n) (h' : r'.length = n) (w : World) :
    (binOp .neq t (.agg (intCells r).toArray) (.agg (intCells r').toArray)).run P w = .ok (.bool (!decide (r = r'))) w := by
  have := run_equalIn_array (P := P) (w := w) 9999 (t := t) (intCells r).toArray (intCells r').toArray hu hi
  rw [hc, run_eqItems_ints 9998 he r r' w _ (fun j hj => by have := List.mem_range.1 hj; omega)] at this
  have e : decide (∀ i ∈ List.range n, r.getD i 0 = r'.getD i 0) = decide (r = r') := by rw [decide_eq_decide]; exact list_ext_getD h h'
  rw [e] at this
  simp [go_sem, this]

/-- The lists of a machine by value. -/
structure MLs (w : World) (D : Nat → Prop) (M : Mach) (vm vs vc vi vo : Value) (sv : List Value) : Prop where
  rl : M.r.length = 16
  m : Sl w D 1 vm M.m.length (intCells M.m)
  s : Sl w D 1 vs M.s.length sv
  l : Lists w D M vc vi vo sv
  d : ∀ k, D k → k < w.heap.size
section
variable {w w' : World} {D D' : Nat → Prop} {b off : Nat} {M : Mach} {vm vs vc vi vo : Value} {sv : List Value}
theorem MRd.mls (h : MRd w D b off M vm vs vc vi vo sv) : MLs w D M vm vs vc vi vo sv := ⟨h.rl, h.m, h.s, h.l, h.d⟩
theorem MLs.keep (h : MLs w D M vm vs vc vi vo sv) (hk : ∀ b o, D b → w'.cell? ⟨b, o, none⟩ = w.cell? ⟨b, o, none⟩) (hD : ∀ k, D k → D' k) (hd : ∀ k, D' k → k < w'.heap.size) : MLs w' D' M vm vs vc vi vo sv :=
  ⟨h.rl, h.m.keep hk hD, h.s.keep hk hD, h.l.keep hk hD, hd⟩
theorem MLs.next (h : MLs w D M vm vs vc vi vo sv) (hb : Below w.heap.size w w') : MLs w' D M vm vs vc vi vo sv :=
  h.keep (fun b o hd => hb.cell (p := ⟨b, o, none⟩) (h.d _ hd)) (fun _ h => h) fun k hk => Nat.lt_of_lt_of_le (h.d k hk) hb.size
/-- A machine by value, laid in a block. -/
theorem MLs.at_ {t : TypeId} (h : MLs w D M vm vs vc vi vo sv) (hk : Blk w b t (mcells M vm vs vc vi vo).toArray) : MRd w D b 0 M vm vs vc vi vo sv :=
  ⟨h.rl, hk.lt, fun j hj => by rw [hk.cell, List.getElem?_toArray, Nat.zero_add], h.m, h.s, h.l, h.d⟩
theorem MRd.range (h : MRd w D b off M vm vs vc vi vo sv) : w.rangeAt b off (mcells M vm vs vc vi vo) := fun j v hv => by
  have hl := (mc_get (M := M) (vm := vm) (vs := vs) (vc := vc) (vi := vi) (vo := vo) h.rl).2.2.2.2.2.2.2.2.2.2
  exact (h.c j (by have := (List.getElem?_eq_some_iff.1 hv).1; omega)).trans hv
theorem MRd.regs (h : MRd w D b off M vm vs vc vi vo sv) : w.rangeAt b (off + 2) (intCells M.r) := fun j v hv => by
  have hj : j < 16 := by have := (List.getElem?_eq_some_iff.1 hv).1; rw [intCells_length, h.rl] at this; exact this
  have := (mc_get (M := M) (vm := vm) (vs := vs) (vc := vc) (vi := vi) (vo := vo) h.rl).2.2.1 j hj
  rw [Nat.add_assoc, h.c (2 + j) (by omega), this, ← hv, intCells_get _ _ (by rw [h.rl]; exact hj)]
theorem MRd.c0 (h : MRd w D b off M vm vs vc vi vo sv) : w.cell? ⟨b, off, none⟩ = some (.int .i64 M.pc) := by have := h.c 0 (by decide); rw [Nat.add_zero] at this; rw [this]; rfl
theorem MRd.c1 (h : MRd w D b off M vm vs vc vi vo sv) : w.cell? ⟨b, off + 1, none⟩ = some (.int .i64 M.dir) := (h.c 1 (by decide)).trans rfl
theorem MRd.cr (h : MRd w D b off M vm vs vc vi vo sv) (k : Nat) (hk : k < 16) : w.cell? ⟨b, off + 2 + k, none⟩ = some (.int .i64 (M.r.getD k 0)) := by rw [Nat.add_assoc, h.c (2 + k) (by omega)]; exact (mc_get h.rl).2.2.1 k hk
theorem MRd.c18 (h : MRd w D b off M vm vs vc vi vo sv) : w.cell? ⟨b, off + 18, none⟩ = some vm := (h.c 18 (by decide)).trans (mc_get h.rl).2.2.2.1
theorem MRd.c19 (h : MRd w D b off M vm vs vc vi vo sv) : w.cell? ⟨b, off + 19, none⟩ = some vs := (h.c 19 (by decide)).trans (mc_get h.rl).2.2.2.2.1
theorem MRd.c20 (h : MRd w D b off M vm vs vc vi vo sv) : w.cell? ⟨b, off + 20, none⟩ = some vc := (h.c 20 (by decide)).trans (mc_get h.rl).2.2.2.2.2.1
theorem MRd.c21 (h : MRd w D b off M vm vs vc vi vo sv) : w.cell? ⟨b, off + 21, none⟩ = some (.int .i64 M.fp) := (h.c 21 (by decide)).trans (mc_get h.rl).2.2.2.2.2.2.1
theorem MRd.c22 (h : MRd w D b off M vm vs vc vi vo sv) : w.cell? ⟨b, off + 22, none⟩ = some (.int .i64 M.sb) := (h.c 22 (by decide)).trans (mc_get h.rl).2.2.2.2.2.2.2.1
theorem MRd.c23 (h : MRd w D b off M vm vs vc vi vo sv) : w.cell? ⟨b, off + 23, none⟩ = some vi := (h.c 23 (by decide)).trans (mc_get h.rl).2.2.2.2.2.2.2.2.1
theorem MRd.c24 (h : MRd w D b off M vm vs vc vi vo sv) : w.cell? ⟨b, off + 24, none⟩ = some vo := (h.c 24 (by decide)).trans (mc_get h.rl).2.2.2.2.2.2.2.2.2.1
theorem MRd.ls (h : MRd w D b off M vm vs vc vi vo sv) : SvRd w D sv M.s := h.l.1
theorem MRd.lc (h : MRd w D b off M vm vs vc vi vo sv) : Sl w D 2 vc M.calls.length (actCells M.calls) := h.l.2.1
theorem MRd.li (h : MRd w D b off M vm vs vc vi vo sv) : Sl w D 1 vi M.inp.length (intCells M.inp) := h.l.2.2.1
theorem MRd.lo (h : MRd w D b off M vm vs vc vi vo sv) : Sl w D 1 vo M.out.length (intCells M.out) := h.l.2.2.2
end
theorem Row.sl {w : World} {g : Nat} {v : Value} {xs : List Value} (h : Row w g v xs) (hg : g < w.heap.size) : Sl w (· = g) 1 v xs.length xs := by
  obtain ⟨A, cap, rfl, h1, h2, h3⟩ := h
  refine ⟨A, cap, rfl, h1, h2, by simp, fun hn => ?_⟩
  obtain ⟨rfl, t, cur, hB, hc⟩ := h3 hn
  exact ⟨g, 0, rfl, rfl, fun j u hu => by rw [Nat.zero_add, hB.cell]; exact hc j u hu⟩
/-- A machine that lies somewhere, read: its lists lie in its own rows and in no foreign block. -/
theorem MOn.rd' {w : World} {P : Pl} {M : Mach} {vm vs vc vi vo : Value} {sv : List Value} (h : MOn w P M vm vs vc vi vo sv) : MRd w (fun k => k < w.heap.size ∧ (k = P.gm ∨ k = P.gs ∨ P.D w k)) P.b P.off M vm vs vc vi vo sv :=
  ⟨h.rl, h.lt, h.cellAt, by have := h.m.sl h.gm; rw [intCells_length] at this; exact this.mono fun k hk => ⟨hk ▸ h.gm, .inl hk⟩, by have := h.s.sl h.gs; rw [h.l.1.1] at this; exact this.mono fun k hk => ⟨hk ▸ h.gs, .inr (.inl hk)⟩,
   h.l.keep (fun _ _ _ => rfl) fun _ hk => ⟨hk.1, .inr (.inr hk)⟩, fun _ hk => hk.1⟩
theorem MRd.mono {w : World} {D D' : Nat → Prop} {b off : Nat} {M : Mach} {vm vs vc vi vo : Value} {sv : List Value} (h : MRd w D b off M vm vs vc vi vo sv) (hD : ∀ k, D k → D' k) (hd : ∀ k, D' k → k < w.heap.size) : MRd w D' b off M vm vs vc vi vo sv :=
  ⟨h.rl, h.lt, h.c, h.m.mono hD, h.s.mono hD, h.l.keep (fun _ _ _ => rfl) hD, hd⟩
theorem MOn.rd {w : World} {P : Pl} {M : Mach} {vm vs vc vi vo : Value} {sv : List Value} (h : MOn w P M vm vs vc vi vo sv) : MRd w (· < w.heap.size) P.b P.off M vm vs vc vi vo sv := h.rd'.mono (fun _ h => h.1) fun _ h => h
/-- A machine that is read, over a change of other blocks. -/
theorem MRd.fr {w w' : World} {D O : Nat → Prop} {b off : Nat} {M : Mach} {vm vs vc vi vo : Value} {sv : List Value} (h : MRd w D b off M vm vs vc vi vo sv) (hf : Fr O w w') (hb : ¬ O b) (hO : ∀ k, D k → ¬ O k) : MRd w' D b off M vm vs vc vi vo sv :=
  have hk : ∀ b o, D b → w'.cell? ⟨b, o, none⟩ = w.cell? ⟨b, o, none⟩ := fun b o hd => hf.cell (h.d b hd) (hO b hd) o
  ⟨h.rl, Nat.lt_of_lt_of_le h.lt hf.size, fun j hj => (hf.cell h.lt hb _).trans (h.c j hj), h.m.keep hk fun _ h => h, h.s.keep hk fun _ h => h, h.l.keep hk fun _ h => h, fun k hk => Nat.lt_of_lt_of_le (h.d k hk) hf.size⟩
/-- A whole array or struct is loaded, in a region whose callees only add memory. -/
theorem quiet_loadG {P : Program} {W : World} {o : Oper} {a : Act} {K : Act → Prop} (ty : TypeId) {x : Operand} (ho : o.op = .load ty x) {p : Value} (hx : a.eval x = p) {v : Value} (h : ∀ z : Grw W, (Instr.loadAt ty p).run P (grow W z) = .ok v (grow W z))
    (hk : K (a.put o.dst v)) : o.quiet P a (fun w' => ∃ z : Grw W, w' = grow W z) K := by
  refine ⟨v, ?_, hk⟩
  rintro _ ⟨z, rfl⟩
  unfold Oper.quietAt execOp
  simp only [ho, hx, h z, Sem.run_bind, Sem.run_pure, Result.andThen_ok]
  exact ⟨rfl, rfl⟩
/-- The same in a region that keeps the text's order. -/
theorem wpList_loadG {P : Program} {ops : Array Oper} {rest : List Oper} {o : Oper} {a : Act} {w : World} {Q : Exit → Act → World → Prop} (ty : TypeId) {x : Operand} (ho : o.op = .load ty x) (hw : Region.wanted o (yielded ops a.tmps) = true) {p : Value} (hx : a.eval x = p) {v : Value} (h : (Instr.loadAt ty p).run P w = .ok v w)
    (hk : wpList P ops Q rest (a.put o.dst v) w) : wpList P ops Q (o :: rest) a w := by
  refine BigFrame.wpList_want hw fun K hK => ?_
  unfold Oper.wp execOp
  simp only [ho, hx, h, Sem.run_bind, Sem.run_pure, Result.andThen_ok]
  exact hK _ _ hk
end Bk
namespace Go.Proofs.YteenmpjjaheggaaDoor
open Go.RowKit Bk
theorem info_int1 : (Tryd.prog.info? 3).map (fun i => i.size) = some 1 := by kernel_rfl
theorem info_regs : (Tryd.prog.info? 22).map (fun i => i.size) = some 16 := by kernel_rfl
theorem cells_int1 : Tryd.prog.cellsOf 3 = 1 := by kernel_rfl
theorem eq_regs {r r' : List Int} (h : r.length = 16) (h' : r'.length = 16) (w : World) : (binOp .eql 22 (.agg (intCells r).toArray) (.agg (intCells r').toArray)).run Tryd.prog w = .ok (.bool (decide (r = r'))) w := by
  obtain ⟨i, hi, _⟩ := Option.map_eq_some_iff.1 info_int1
  exact run_eq_arr Tryd.underlying22 Tryd.underlying3 hi cells_int1 h h' w
theorem ne_regs {r r' : List Int} (h : r.length = 16) (h' : r'.length = 16) (w : World) : (binOp .neq 22 (.agg (intCells r).toArray) (.agg (intCells r').toArray)).run Tryd.prog w = .ok (.bool (!decide (r = r'))) w := by
  obtain ⟨i, hi, _⟩ := Option.map_eq_some_iff.1 info_int1
  exact run_ne_arr Tryd.underlying22 Tryd.underlying3 hi cells_int1 h h' w
/-- The registers are loaded. -/
theorem load_regs {w : World} {D : Nat → Prop} {b off : Nat} {M : Mach} {vm vs vc vi vo : Value} {sv : List Value} (h : MRd w D b off M vm vs vc vi vo sv) : (Instr.loadAt 22 (.pointer (some ⟨b, off + 2, none⟩))).run Tryd.prog w = .ok (.agg (intCells M.r).toArray) w :=
  run_loadAt_mid w b (off + 2) 22 (intCells M.r) _ h.regs Tryd.underlying22 rfl (by rw [info_regs, intCells_length, h.rl])
/-- A whole machine is loaded. -/
theorem load_mach {w : World} {D : Nat → Prop} {b off : Nat} {M : Mach} {vm vs vc vi vo : Value} {sv : List Value} (h : MRd w D b off M vm vs vc vi vo sv) : (Instr.loadAt 27 (.pointer (some ⟨b, off, none⟩))).run Tryd.prog w = .ok (.agg (mcells M vm vs vc vi vo).toArray) w :=
  run_loadAt_mid w b off 27 _ _ h.range Tryd.underlying27 rfl (by rw [info_mach, mc_len _ _ _ _ _ _ h.rl])
end Go.Proofs.YteenmpjjaheggaaDoor

/- cpu.Equal on two places of one machine: true. -/
set_option maxRecDepth 100000
set_option maxHeartbeats 8000000
set_option linter.unusedVariables false
namespace Go.Proofs.YteenmpjjaheggaaDoor
open Go.RowKit Bk
theorem c_EqIT {w : World} {D D' : Nat → Prop} {v v' : Value} {l : List Int} (h : Sl w D 1 v l.length (intCells l)) (h' : Sl w D' 1 v' l.length (intCells l)) (hD : ∀ k, D k → k < w.heap.size) (hD' : ∀ k, D' k → k < w.heap.size) (hmax : l.length ≤ 20000000000000) :
    Calls Tryd.prog 35 #[v, v'] w fun e w' => e = .returned (.bool true) ∧ Below w.heap.size w w' := by simpa using c_EqI h h' hD hD' hmax hmax
theorem c_EqAT {w : World} {D D' : Nat → Prop} {v v' : Value} {l : List (Int × Bool)} (h : Sl w D 2 v l.length (actCells l)) (h' : Sl w D' 2 v' l.length (actCells l)) (hD : ∀ k, D k → k < w.heap.size) (hD' : ∀ k, D' k → k < w.heap.size) (hmax : l.length ≤ 20000000000000) :
    Calls Tryd.prog 38 #[v, v'] w fun e w' => e = .returned (.bool true) ∧ Below w.heap.size w w' := by simpa using c_EqA h h' hD hD' hmax hmax
theorem c_EqFT {w : World} {D D' : Nat → Prop} {v v' : Value} {sv sv' : List Value} {ss : List (List Int)} (h : Sl w D 1 v ss.length sv) (h' : Sl w D' 1 v' ss.length sv') (hs : SvRd w D sv ss) (hs' : SvRd w D' sv' ss) (hD : ∀ k, D k → k < w.heap.size) (hD' : ∀ k, D' k → k < w.heap.size)
    (hmax : ss.length ≤ 20000000000000) (hl : ∀ l ∈ ss, l.length ≤ 20000000000000) :
    Calls Tryd.prog 36 #[v, v', .func (.func 37) #[] #[]] w fun e w' => e = .returned (.bool true) ∧ Below w.heap.size w w' := by simpa using c_EqF h h' hs hs' hD hD' hmax hmax hl hl
theorem c_EqualT {w : World} {D D' : Nat → Prop} {b off b' off' : Nat} {M : Mach} {vm vs vc vi vo vm' vs' vc' vi' vo' : Value} {sv sv' : List Value} (h : MRd w D b off M vm vs vc vi vo sv) (h' : MRd w D' b' off' M vm' vs' vc' vi' vo' sv') (hB : MBd M) :
    Calls Tryd.prog 10 #[.pointer (some ⟨b, off, none⟩), .pointer (some ⟨b', off', none⟩)] w fun e w' => e = .returned (.bool true) ∧ Below w.heap.size w w' := by
  have HM := Lib.hid h; have HM' := Lib.hid h'; have HB := Lib.hid hB
  have hrl := h.rl
  have hlt := h.lt; have hlt' := h'.lt
  have hRR : ∀ W : World, (binOp .eql 22 (.agg (intCells M.r).toArray) (.agg (intCells M.r).toArray)).run Tryd.prog W = .ok (.bool true) W := fun W => by
    rw [eq_regs hrl hrl, decide_eq_true rfl]
  have b1 : M.m.length ≤ 20000000000000 := by have := HB.out.ml; omega
  have b2 : M.s.length ≤ 20000000000000 := by have := HB.out.sl; omega
  have b3 : ∀ l ∈ M.s, l.length ≤ 20000000000000 := fun l hl => by have := HB.out.st l hl; omega
  have b4 : M.calls.length ≤ 20000000000000 := by have := HB.out.cl; omega
  have b5 : M.inp.length ≤ 20000000000000 := by have := HB.out.il; omega
  have b6 : M.out.length ≤ 20000000000000 := by have := HB.out.ol; omega
  have B1 := Lib.hid b1; have B2 := Lib.hid b2; have B3 := Lib.hid b3; have B4 := Lib.hid b4; have B5 := Lib.hid b5; have B6 := Lib.hid b6
  clear h h' hB b1 b2 b3 b4 b5 b6 hrl
  go_enter Tryd.func10, Tryd.ntmps10
  go_wp2_with fail
  simp only [List.append_eq, List.cons_append, List.nil_append]
  refine wp_region_growF (by kernel_rfl) (by kernel_rfl) ?_; intro W hW; have hneW : Nonempty (Grw W) := ⟨⟨W, Below.refl _ _⟩⟩; have HBz := Lib.hid (fun z => Below.next (show Below w.heap.size w W by (rw [hW]; exact (by go_grown))) (grow_below W z))
  have g0 := fun z => (HM.out.next (HBz.out z)).c0; have i0 := fun z => (HM'.out.next (HBz.out z)).c0
  have g1 := fun z => (HM.out.next (HBz.out z)).c1; have i1 := fun z => (HM'.out.next (HBz.out z)).c1
  have g18 := fun z => (HM.out.next (HBz.out z)).c18; have i18 := fun z => (HM'.out.next (HBz.out z)).c18
  have g19 := fun z => (HM.out.next (HBz.out z)).c19; have i19 := fun z => (HM'.out.next (HBz.out z)).c19
  have g20 := fun z => (HM.out.next (HBz.out z)).c20; have i20 := fun z => (HM'.out.next (HBz.out z)).c20
  have g21 := fun z => (HM.out.next (HBz.out z)).c21; have i21 := fun z => (HM'.out.next (HBz.out z)).c21
  have g22 := fun z => (HM.out.next (HBz.out z)).c22; have i22 := fun z => (HM'.out.next (HBz.out z)).c22
  have g23 := fun z => (HM.out.next (HBz.out z)).c23; have i23 := fun z => (HM'.out.next (HBz.out z)).c23
  have g24 := fun z => (HM.out.next (HBz.out z)).c24; have i24 := fun z => (HM'.out.next (HBz.out z)).c24
  have gR := fun z => load_regs (HM.out.next (HBz.out z)); have iR := fun z => load_regs (HM'.out.next (HBz.out z))
  have HW := Lib.hid hW; clear hW
  repeat (first | (go_big_quiet_want; refine quiet_loadG 22 rfl rfl (gR) ?_; go_big_quiet_on; simp only [Act.put, Bk.PU]) | (go_big_quiet_want; refine quiet_loadG 22 rfl rfl (iR) ?_; go_big_quiet_on; simp only [Act.put, Bk.PU]) | go_big_quiet_step ((first | (go_at_call 35; with_reducible exact quiet_grow (c_EqIT (HM.out.next (HBz.out _)).m (HM'.out.next (HBz.out _)).m (HM.out.next (HBz.out _)).d (HM'.out.next (HBz.out _)).d B1.out)) | (go_at_call 36; with_reducible exact quiet_grow (c_EqFT (HM.out.next (HBz.out _)).s (HM'.out.next (HBz.out _)).s (HM.out.next (HBz.out _)).ls (HM'.out.next (HBz.out _)).ls (HM.out.next (HBz.out _)).d (HM'.out.next (HBz.out _)).d B2.out B3.out)) | (go_at_call 38; with_reducible exact quiet_grow (c_EqAT (HM.out.next (HBz.out _)).lc (HM'.out.next (HBz.out _)).lc (HM.out.next (HBz.out _)).d (HM'.out.next (HBz.out _)).d B4.out)) | (go_at_call 35; with_reducible exact quiet_grow (c_EqIT (HM.out.next (HBz.out _)).li (HM'.out.next (HBz.out _)).li (HM.out.next (HBz.out _)).d (HM'.out.next (HBz.out _)).d B5.out)) | (go_at_call 35; with_reducible exact quiet_grow (c_EqIT (HM.out.next (HBz.out _)).lo (HM'.out.next (HBz.out _)).lo (HM.out.next (HBz.out _)).d (HM'.out.next (HBz.out _)).d B6.out)))))
  clear g0 i0 g1 i1 g18 i18 g19 i19 g20 i20 g21 i21 g22 i22 g23 i23 g24 i24 gR iR
  refine wpQuiet_nil ?_; rintro _ ⟨z, rfl⟩; have hb1 := grow_below W z; have hB1 := HBz.out z; generalize grow W z = w1 at hb1 hB1 ⊢; have hW := HW.out; clear HW HBz hneW; subst hW; obtain ⟨hc1, hf1⟩ := bcell hb1; obtain ⟨hcA1, hfA1⟩ := bcell hB1; have HB1 := Lib.hid hb1; clear hb1
  go_wp2_with fail
  go_ret
  exact ⟨rfl, by go_grown⟩
end Go.Proofs.YteenmpjjaheggaaDoor
