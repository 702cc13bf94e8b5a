/- Several texts in one: CpuX CpuY Mq MOwn. -/
import Derived.Test.YtbijhlgdilkopaaGreatDoorCpF
import Derived.Lib.SliceRun
import Derived.Outline
import Derived.Deep.DeepAppendWide
import Derived.Deep.MidRow
import Derived.Great.Walk
import Derived.Deep.WholeRow
import Derived.Test.YtbijhlgdilkopaaGreatDoorBa
import Derived.ChangeKeysEq
set_option linter.unusedVariables false
set_option linter.unusedSimpArgs false
/- slices.Clone at []int and []Activation. -/
set_option maxRecDepth 100000
set_option maxHeartbeats 8000000
set_option linter.unusedVariables false
namespace Bk
open Go
theorem addr_add' (b off j : Nat) : (⟨b, off, none⟩ : Addr).add j = ⟨b, off + j, none⟩ := by
  unfold Addr.add
  split
  · rename_i h0; subst h0; rfl
  · rfl
end Bk
namespace Go.Proofs.YtbijhlgdilkopaaGreatDoor
open Go.RowKit Bk
theorem info_actX : (Tryz.prog.info? 118).map (fun i => (i.zero, i.size, i.bytes)) = some (some (.agg #[.int .i64 0, .bool false]), 2, 16) := by kernel_rfl
theorem oneActX (l : List (Int × Bool)) : ∀ u ∈ actCells l, u.oneCell' = true := by
  intro u hu
  unfold actCells at hu
  obtain ⟨x, _, hx⟩ := List.mem_flatMap.1 hu
  simp at hx
  rcases hx with rfl | rfl <;> rfl

theorem CloneI.some_ (ad : Addr) (n cap : Nat) (l : List Int) (w : World) (hmax : n ≤ 17592186044400) (hl : (intCells l).length = n * 1) (hc : ∀ j u, (intCells l)[j]? = some u → w.cell? (ad.add j) = some u) :
    Calls Tryz.prog 18 #[.slice (some ad) n cap] w fun e w' => ∃ v, e = .returned v ∧ w'.ownsRow w.heap.size 3 1 v n (intCells l) ∧ Below w.heap.size w w' := by
  obtain ⟨i2, li, lz, ls, lb⟩ := info_parts info_intP
  have q28 : ∀ (w : World) (a : Option Addr) (n c n' c' : Nat), (binOp .eql 46 (.slice a n c) (.slice none n' c')).run Tryz.prog w = .ok (.bool a.isNone) w := fun w a n c n' c' => Lib.run_eql_slice_nil w _ _ a n c n' c' Tryz.underlying46
  have HC := Lib.hid hc; clear hc
  have HL := Lib.hid hl; clear hl
  go_enter Tryz.func18, Tryz.ntmps18
  go_wp2_with (at_builtin; refine wpList_append_own_wide _ rfl _ _ 46 rfl w.heap.size 3 i2 _ 1 8 Tryz.underlying46 li lz ls lb rfl (by decide) _ _ _ rfl (World.ownsRow_made w #[] 0 (Nat.le_refl _) (Nat.zero_le _) rfl) ad n cap (intCells l) rfl ?qc1 ?qc2 ?qc3 ?qc4 ?qc5 ?qc6 ?_)
  case qc1 => exact HL.out
  case qc2 =>
    intro j u hj
    have h := HC.out j u hj
    refine Lib.cell?_alloc_some _ h
  case qc3 => exact oneInt l
  case qc4 => unfold maxLen; omega
  case qc5 => omega
  case qc6 => simp
  intro v' w1 hown hgrow hnil
  go_wp2
  go_ret
  refine ⟨v', rfl, by simpa using hown, ?_⟩
  exact ((Below.refl _ w).alloc (Nat.le_refl _) _).grown hgrow (by simp) (by intro k hk; simp [Value.ownBlock] at hk; omega)

theorem c_CloneI {w : World} {D : Nat → Prop} {v : Value} {l : List Int} (h : Sl w D 1 v l.length (intCells l)) (hmax : l.length ≤ 17592186044400) :
    Calls Tryz.prog 18 #[v] w fun e w' => ∃ v, e = .returned v ∧ w'.ownsRow w.heap.size 3 1 v l.length (intCells l) ∧ Below w.heap.size w w' := by
  obtain ⟨A, cap, rfl, hcap, hA, hC⟩ := h
  cases A with
  | none =>
    have hcode : l = [] := by
      rcases Nat.eq_zero_or_pos l.length with h | h
      · exact List.eq_nil_of_length_eq_zero h
      · obtain ⟨b, off, e, _⟩ := hC.2 h; cases e
    subst hcode
    have q28 : ∀ (w : World) (a : Option Addr) (n c n' c' : Nat), (binOp .eql 46 (.slice a n c) (.slice none n' c')).run Tryz.prog w = .ok (.bool a.isNone) w := fun w a n c n' c' => Lib.run_eql_slice_nil w _ _ a n c n' c' Tryz.underlying46
    clear hC hcap hA hmax
    go_enter Tryz.func18, Tryz.ntmps18
    go_wp2
    go_ret
    exact ⟨_, rfl, ⟨rfl, .inl ⟨rfl, rfl⟩⟩, Below.refl _ _⟩
  | some ad =>
    refine CloneI.some_ ad _ cap l w hmax hC.1 fun j u hu => ?_
    rcases Nat.eq_zero_or_pos l.length with h | h
    · have : l = [] := List.eq_nil_of_length_eq_zero h
      subst this
      simp [intCells] at hu
    · obtain ⟨b, off, e, _, hc⟩ := hC.2 h
      injection e with e
      subst e
      rw [addr_add']
      exact hc j u hu

end Go.Proofs.YtbijhlgdilkopaaGreatDoor

/- cpu.Clone: a machine that is only read is copied. -/
set_option linter.unusedVariables false
namespace Bk
open Go Go.RowKit
/-- A machine that is only read: 25 cells at an address, lists in blocks of D. -/
structure MRd (w : World) (D : Nat → Prop) (b off : Nat) (M : Mach) (vm vs vc vi vo : Value) (sv : List Value) : Prop where
  rl : M.r.length = 16
  lt : b < w.heap.size
  c : ∀ j, j < 25 → w.cell? ⟨b, off + j, none⟩ = (mcells M vm vs vc vi vo)[j]?
  m : Sl w D 1 vm M.m.length (intCells M.m)
  s : Sl w D 1 vs M.s.length sv
  l : Lists w D M vc vi vo sv
  d : ∀ k, D k → k < w.heap.size
theorem MRd.next {w w' : World} {D : Nat → Prop} {b off : Nat} {M : Mach} {vm vs vc vi vo : Value} {sv : List Value} (h : MRd w D b off M vm vs vc vi vo sv) (hb : Below w.heap.size w w') : MRd w' D b off M vm vs vc vi vo sv :=
  ⟨h.rl, Nat.lt_of_lt_of_le h.lt hb.size, fun j hj => (hb.cell (p := ⟨b, off + j, none⟩) h.lt).trans (h.c j hj), h.m.keep (fun b o hd => hb.cell (p := ⟨b, o, none⟩) (h.d _ hd)) fun _ h => h,
   h.s.keep (fun b o hd => hb.cell (p := ⟨b, o, none⟩) (h.d _ hd)) fun _ h => h, h.l.keep (fun b o hd => hb.cell (p := ⟨b, o, none⟩) (h.d _ hd)) fun _ h => h, fun k hk => Nat.lt_of_lt_of_le (h.d k hk) hb.size⟩
/-- A clone: a machine in new memory. -/
def Cloned (w : World) (t : TypeId) (M : Mach) (e : Ending) (w' : World) : Prop :=
  ∃ b gm gs, e = .returned (.pointer (some ⟨b, 0, none⟩)) ∧ w.heap.size ≤ b ∧ w.heap.size ≤ gm ∧ w.heap.size ≤ gs ∧ MAt w' ⟨b, t, [], [], 0, gm, gs, (· < w.heap.size)⟩ M ∧ Below w.heap.size w w'
theorem Blk.mset {w : World} {g : Nat} {t : TypeId} {M : Mach} {vm vs vc vi vo : Value} (h : Blk w g t (mcells M vm vs vc vi vo).toArray) (hr : M.r.length = 16) (k : Nat) (u : Value) :
    Blk (w.setCell ⟨g, 18 + k, none⟩ u) g t (.int .i64 M.pc :: .int .i64 M.dir :: (intCells M.r ++ [vm, vs, vc, .int .i64 M.fp, .int .i64 M.sb, vi, vo].set k u)).toArray := by
  have := h.set_ (18 + k) u
  rwa [List.setIfInBounds_toArray, tail_set M vm vs vc vi vo u hr k] at this
theorem Row.of_own {w : World} {base n : Nat} {e : TypeId} {v : Value} {xs : List Value} (h : w.ownsRow base e 1 v n xs) (hx : xs.length = n) (g : Nat) (hg : g < base) (hgs : g < w.heap.size) : ∃ gm, g ≤ gm ∧ gm < w.heap.size ∧ (0 < xs.length → gm ≠ g) ∧ Row w gm v xs := by
  subst hx
  rcases h.2 with ⟨rfl, h0⟩ | ⟨g', cap, cur, rfl, hg', hh, hnc, hcap, hsz, htake⟩
  · exact ⟨g, Nat.le_refl _, hgs, fun hn => by omega, none, 0, by rw [h0], by omega, fun _ => rfl, fun hn => by omega⟩
  · refine ⟨g', by omega, Blk.lt (cs := cur) hh, fun _ => by omega, _, cap, rfl, hnc, (fun e => by cases e), fun _ => ⟨rfl, e, cur, hh, fun j u hu => ?_⟩⟩
    have hj : j < xs.length := (List.getElem?_eq_some_iff.1 hu).1
    have := htake
    rw [Nat.mul_one] at this
    rw [← Array.getElem?_toList, ← hu, ← this, List.getElem?_take, if_pos hj]
/-- What the loop of Clone keeps. -/
structure ClInv (w w3 wj : World) (tM tI : TypeId) (M : Mach) (vm vc vi vo : Value) (gm n j : Nat) : Prop where
  b : Below w.heap.size w wj
  k : Blk wj w.heap.size tM (mcells M vm (.slice (some ⟨w3.heap.size, 0, none⟩) n n) vc vi vo).toArray
  m : Row wj gm vm (intCells M.m)
  l : w3.heap.size < wj.heap.size
  s : ∃ sv : List Value, sv.length = n ∧ Blk wj w3.heap.size tI sv.toArray ∧ ∀ k, k < j → ∃ u, sv[k]? = some u ∧ Sl wj (fun b => w3.heap.size < b ∧ b < wj.heap.size) 1 u (M.s.getD k []).length (intCells (M.s.getD k []))
theorem ClInv.next {w w3 wj wk : World} {tM tI : TypeId} {M : Mach} {vm vc vi vo : Value} {gm n j : Nat} (h : ClInv w w3 wj tM tI M vm vc vi vo gm n j) (hb : Below wj.heap.size wj wk) (hgm : gm < wj.heap.size) : ClInv w w3 wk tM tI M vm vc vi vo gm n j := by
  obtain ⟨sv, h1, h2, h3⟩ := h.s
  refine ⟨h.b.next hb, h.k.next hb, h.m.keep fun _ => hb.block _ hgm, Nat.lt_of_lt_of_le h.l hb.size, sv, h1, h2.next hb, fun k hk => ?_⟩
  obtain ⟨u, hu, hs⟩ := h3 k hk
  exact ⟨u, hu, hs.keep (fun b o hd => hb.cell (p := ⟨b, o, none⟩) hd.2) fun k hk => ⟨hk.1, Nat.lt_of_lt_of_le hk.2 hb.size⟩⟩
theorem ClInv.put {w w3 wj : World} {tM tI : TypeId} {M : Mach} {vm vc vi vo : Value} {gm n j : Nat} (h : ClInv w w3 wj tM tI M vm vc vi vo gm n j) (hg : w.heap.size < w3.heap.size) (hgm : gm < w3.heap.size) (u : Value) (hj : j < n)
    (hu : Sl wj (fun b => w3.heap.size < b ∧ b < wj.heap.size) 1 u (M.s.getD j []).length (intCells (M.s.getD j []))) : ClInv w w3 (wj.setCell ⟨w3.heap.size, j, none⟩ u) tM tI M vm vc vi vo gm n (j + 1) := by
  have ne : ∀ g, g ≠ w3.heap.size → (wj.setCell ⟨w3.heap.size, j, none⟩ u).heap[g]? = wj.heap[g]? := fun g hg => Below.heap_setCell wj ⟨w3.heap.size, j, none⟩ _ g hg
  have hsz : (wj.setCell ⟨w3.heap.size, j, none⟩ u).heap.size = wj.heap.size := by simp [World.setCell]
  obtain ⟨sv, h1, h2, h3⟩ := h.s
  have kp : ∀ b o, (w3.heap.size < b ∧ b < wj.heap.size) → (wj.setCell ⟨w3.heap.size, j, none⟩ u).cell? ⟨b, o, none⟩ = wj.cell? ⟨b, o, none⟩ := fun b o hd => World.cell?_of_block (ne b (by omega))
  refine ⟨⟨h.b.os, h.b.tape, h.b.output, by rw [hsz]; exact h.b.size, fun k hk => (ne k (by omega)).trans (h.b.block k hk)⟩, (ne _ (by omega)).trans h.k, h.m.keep fun _ => ne _ (by omega), by rw [hsz]; exact h.l, sv.set j u, by simp [h1], ?_, fun k hk => ?_⟩
  · have := h2.set_ j u
    rwa [List.setIfInBounds_toArray] at this
  · by_cases e : k = j
    · subst e
      exact ⟨u, by rw [List.getElem?_set, if_pos rfl, if_pos (by omega)], hu.keep kp fun k hk => ⟨hk.1, by rw [hsz]; exact hk.2⟩⟩
    · obtain ⟨u', hu', hs'⟩ := h3 k (by omega)
      exact ⟨u', by rw [List.getElem?_set, if_neg (fun h => e h.symm)]; exact hu', hs'.keep kp fun k hk => ⟨hk.1, by rw [hsz]; exact hk.2⟩⟩
theorem ClInv.cell {w w3 wj : World} {tM tI : TypeId} {M : Mach} {vm vc vi vo : Value} {gm n j : Nat} (h : ClInv w w3 wj tM tI M vm vc vi vo gm n j) (k : Nat) (hk : k < n) : ∃ old, wj.cell? ⟨w3.heap.size, k, none⟩ = some old ∧ wj.frozen? ⟨w3.heap.size, k, none⟩ = false := by
  obtain ⟨sv, h1, h2, h3⟩ := h.s
  exact ⟨sv[k]'(by omega), by rw [h2.cell, List.getElem?_toArray, List.getElem?_eq_getElem (by omega)], h2.frozen k⟩
theorem ClInv.c19 {w w3 wj : World} {tM tI : TypeId} {M : Mach} {vm vc vi vo : Value} {gm n j : Nat} (h : ClInv w w3 wj tM tI M vm vc vi vo gm n j) (hr : M.r.length = 16) : wj.cell? ⟨w.heap.size, 19, none⟩ = some (.slice (some ⟨w3.heap.size, 0, none⟩) n n) := by
  rw [h.k.cell 19, List.getElem?_toArray]; exact (mc_get hr).2.2.2.2.1
theorem ClInv.top {w w3 wj : World} {tM tI : TypeId} {M : Mach} {vm vc vi vo vc' vi' vo' : Value} {gm n j : Nat} (h : ClInv w w3 wj tM tI M vm vc vi vo gm n j) (hr : M.r.length = 16) (hg : w.heap.size < w3.heap.size) (hgm : 0 < (intCells M.m).length → gm ≠ w.heap.size) (k : Nat) (u : Value)
    (hl : [vm, (.slice (some ⟨w3.heap.size, 0, none⟩) n n), vc, .int .i64 M.fp, .int .i64 M.sb, vi, vo].set k u = [vm, (.slice (some ⟨w3.heap.size, 0, none⟩) n n), vc', .int .i64 M.fp, .int .i64 M.sb, vi', vo']) : ClInv w w3 (wj.setCell ⟨w.heap.size, 18 + k, none⟩ u) tM tI M vm vc' vi' vo' gm n j := by
  have ne : ∀ g, g ≠ w.heap.size → (wj.setCell ⟨w.heap.size, 18 + k, none⟩ u).heap[g]? = wj.heap[g]? := fun g hg => Below.heap_setCell wj ⟨w.heap.size, 18 + k, none⟩ _ g hg
  have hsz : (wj.setCell ⟨w.heap.size, 18 + k, none⟩ u).heap.size = wj.heap.size := by simp [World.setCell]
  obtain ⟨sv, h1, h2, h3⟩ := h.s
  have hk := h.k.mset hr k u
  rw [hl] at hk
  refine ⟨⟨h.b.os, h.b.tape, h.b.output, by rw [hsz]; exact h.b.size, fun k hk => (ne k (by omega)).trans (h.b.block k hk)⟩, hk, h.m.keep fun hn => ne _ (hgm hn), by rw [hsz]; exact h.l, sv, h1, (ne _ (by omega)).trans h2, fun k hk => ?_⟩
  obtain ⟨u', hu', hs'⟩ := h3 k hk
  exact ⟨u', hu', hs'.keep (fun b o hd => World.cell?_of_block (ne b (by omega))) fun k hk => ⟨hk.1, by rw [hsz]; exact hk.2⟩⟩
/-- A list in new blocks, over a store to an older block. -/
theorem Sl.farset {w : World} {B sz n g o : Nat} {v u : Value} {xs : List Value} (h : Sl w (fun b => B < b ∧ b < w.heap.size) sz v n xs) (hg : g ≤ B) : Sl (w.setCell ⟨g, o, none⟩ u) (fun b => B < b ∧ b < (w.setCell ⟨g, o, none⟩ u).heap.size) sz v n xs :=
  h.keep (fun b o' hd => World.cell?_of_block (Below.heap_setCell w ⟨g, o, none⟩ u b (by simp; omega))) fun k hk => ⟨hk.1, by simpa [World.setCell] using hk.2⟩
theorem Sl.upB {w w' : World} {B sz n : Nat} {v : Value} {xs : List Value} (h : Sl w (fun b => B < b ∧ b < w.heap.size) sz v n xs) (hb : Below w.heap.size w w') : Sl w' (fun b => B < b ∧ b < w'.heap.size) sz v n xs :=
  h.keep (fun b o hd => hb.cell (p := ⟨b, o, none⟩) hd.2) fun k hk => ⟨hk.1, Nat.lt_of_lt_of_le hk.2 hb.size⟩
theorem Sl.own {w : World} {base B : Nat} {e : TypeId} {sz n : Nat} {v : Value} {xs : List Value} (h : w.ownsRow base e sz v n xs) (hB : B < base) : Sl w (fun b => B < b ∧ b < w.heap.size) sz v n xs :=
  (Sl.of_own h).mono fun k hk => ⟨by omega, hk.2⟩
theorem ClInv.done {w w3 wj : World} {tM tI : TypeId} {M : Mach} {vm vc vi vo : Value} {gm : Nat} (h : ClInv w w3 wj tM tI M vm vc vi vo gm M.s.length M.s.length) (hr : M.r.length = 16) (hg : w.heap.size < w3.heap.size) (h0 : w.heap.size ≤ gm) (h1 : gm < w3.heap.size) (h2 : 0 < (intCells M.m).length → gm ≠ w.heap.size)
    (hc : Sl wj (fun b => w3.heap.size < b ∧ b < wj.heap.size) 2 vc M.calls.length (actCells M.calls)) (hi : Sl wj (fun b => w3.heap.size < b ∧ b < wj.heap.size) 1 vi M.inp.length (intCells M.inp)) (ho : Sl wj (fun b => w3.heap.size < b ∧ b < wj.heap.size) 1 vo M.out.length (intCells M.out)) :
    Cloned w tM M (.returned (.pointer (some ⟨w.heap.size, 0, none⟩))) wj := by
  obtain ⟨sv, s1, s2, s3⟩ := h.s
  have hl := h.l
  have dm : ∀ k, (w3.heap.size < k ∧ k < wj.heap.size) → Pl.D ⟨w.heap.size, tM, [], [], 0, gm, w3.heap.size, (· < w.heap.size)⟩ wj k := fun k hk => ⟨hk.2, fun ho => by rcases ho with e | e | e | e <;> (dsimp only at e; omega)⟩
  refine ⟨w.heap.size, gm, w3.heap.size, rfl, Nat.le_refl _, h0, by omega, ⟨vm, .slice (some ⟨w3.heap.size, 0, none⟩) M.s.length M.s.length, vc, vi, vo, sv, rfl, hr, ?_, h.m, ?_, by dsimp only; omega, hl, fun hn => ⟨h2 (by rw [intCells_length]; exact hn), by dsimp only; omega⟩, fun _ => by dsimp only; omega, ⟨⟨s1, fun k hk => ?_⟩, hc.mono dm, hi.mono dm, ho.mono dm⟩, fun k hk => by have := h.b.size; dsimp only at hk; omega⟩, h.b⟩
  · have := h.k
    simpa using this
  · exact ⟨some ⟨w3.heap.size, 0, none⟩, M.s.length, by rw [s1], by omega, (fun e => by cases e), fun _ => ⟨rfl, tI, _, s2, fun j u hu => by rw [List.getElem?_toArray]; exact hu⟩⟩
  · obtain ⟨u, hu, hs⟩ := s3 k hk
    exact ⟨u, hu, hs.mono dm⟩
end Bk
namespace Go.Proofs.YtbijhlgdilkopaaGreatDoor
open Go.RowKit Bk
theorem wp_nameY {Q : Program} {c : Code} {R : Exit → Act → World → Prop} {a : Act} {w : World} (h : ∀ w', w' = w → c.wp Q R a w') : c.wp Q R a w := h w rfl
theorem calls_nameY {Q : Program} {f : FuncId} {args : Array Value} {R : Ending → World → Prop} {w : World} (h : ∀ w', w' = w → Calls Q f args w' R) : Calls Q f args w R := h w rfl
theorem getD_mem {l : List (List Int)} {k : Nat} (h : k < l.length) : l.getD k [] ∈ l := by
  rw [List.getD_eq_getElem?_getD, List.getElem?_eq_getElem h]
  exact List.getElem_mem h
theorem info_ints : (Tryz.prog.info? 46).map (fun i => (i.zero, i.size, i.bytes)) = some (some (.slice none 0 0), 1, 24) := by kernel_rfl
theorem info_mach : (Tryz.prog.info? 53).map (fun i => i.size) = some 25 := by kernel_rfl
theorem mc_len (M : Mach) (vm vs vc vi vo : Value) (hr : M.r.length = 16) : (mcells M vm vs vc vi vo).length = 25 := (mc_get (vm := vm) (vs := vs) (vc := vc) (vi := vi) (vo := vo) hr).2.2.2.2.2.2.2.2.2.2
end Go.Proofs.YtbijhlgdilkopaaGreatDoor

/- Machines by value and in regions that draw: whole structs and arrays loaded; arrays compared; a machine's lists apart from its cells. -/
set_option linter.unusedVariables false
namespace Bk
open Go Go.RowKit

theorem run_part_int {P : Program} {e : TypeId} (he : P.underlying e = some (.int .i64)) {cs : Array Value} {k : Nat} {v : Value} (hk : cs[k]? = some v) (w : World) : (part e cs k).run P w = .ok v w := by
  simp [part, isAgg, Sem.run_bind, run_underlying he, hk]
theorem run_eqItems_ints {P : Program} (d : Nat) {e : TypeId} (he : P.underlying e = some (.int .i64)) (r r' : List Int) (w : World) : ∀ is : List Nat, (∀ i ∈ is, i < r.length ∧ i < r'.length) →
    (Op.eqItems (d + 1) e 1 (intCells r).toArray (intCells r').toArray is).run P w = .ok (decide (∀ i ∈ is, r.getD i 0 = r'.getD i 0)) w
  | [], _ => by simp [Op.eqItems]
  | i :: is, h => by
    have h1 := h i (by simp)
    have g1 : (intCells r).toArray[i * 1]? = some (.int .i64 (r.getD i 0)) := by rw [Nat.mul_one, List.getElem?_toArray, intCells_get _ _ h1.1]
    have g2 : (intCells r').toArray[i * 1]? = some (.int .i64 (r'.getD i 0)) := by rw [Nat.mul_one, List.getElem?_toArray, intCells_get _ _ h1.2]
    simp only [Op.eqItems, Sem.run_bind, run_part_int he g1, run_part_int he g2, Result.andThen_ok, run_equalIn_int (P := P) (h := he)]
    by_cases hv : r.getD i 0 = r'.getD i 0
    · have hb : (r.getD i 0 == r'.getD i 0) = true := by simpa using hv
      rw [hb]
      simp only [Bool.not_true, Bool.false_eq_true, if_false]
      rw [run_eqItems_ints d he r r' w is fun j hj => h j (by simp [hj])]
      congr 1
      simp only [decide_eq_decide, List.mem_cons, forall_eq_or_imp]
      exact ⟨fun h => ⟨hv, h⟩, fun h => h.2⟩
    · have hb : (r.getD i 0 == r'.getD i 0) = false := by simpa using hv
      rw [hb]
      simp only [Bool.not_false, if_true, Sem.run_pure]
      congr 1
      symm
      simp only [decide_eq_false_iff_not, List.mem_cons, forall_eq_or_imp]
      exact fun h => hv h.1
theorem list_ext_getD {r r' : List Int} {n : Nat} (h : r.length = n) (h' : r'.length = n) : (∀ i ∈ List.range n, r.getD i 0 = r'.getD i 0) ↔ r = r' := by
  constructor
  · intro hh
    refine List.ext_getElem (by omega) fun i h1 h2 => ?_
    have := hh i (List.mem_range.2 (by omega))
    simpa [List.getD_eq_getElem?_getD, h1, h2] using this
  · rintro rfl; intros; rfl
/-- Arrays of numbers are compared. -/
theorem run_eq_arr {P : Program} {t e : TypeId} {n : Nat} {i : TypeInfo} (hu : P.underlying t = some (.array n e)) (he : P.underlying e = some (.int .i64)) (hi : P.info? e = some i) (hc : P.cellsOf e = 1) {r r' : List Int} (h : r.length = n) (h' : r'.length = n) (w : World) :
    (binOp .eql t (.agg (intCells r).toArray) (.agg (intCells r').toArray)).run P w = .ok (.bool (decide (r = r'))) w := by
  have := run_equalIn_array (P := P) (w := w) 9999 (t := t) (intCells r).toArray (intCells r').toArray hu hi
  rw [hc, run_eqItems_ints 9998 he r r' w _ (fun j hj => by have := List.mem_range.1 hj; omega)] at this
  have e : decide (∀ i ∈ List.range n, r.getD i 0 = r'.getD i 0) = decide (r = r') := by rw [decide_eq_decide]; exact list_ext_getD h h'
  rw [e] at this
  simp [go_sem, this]
theorem run_ne_arr {P : Program} {t e : TypeId} {n : Nat} {i : TypeInfo} (hu : P.underlying t = some (.array n e)) (he : P.underlying e = some (.int .i64)) (hi : P.info? e = some i) (hc : P.cellsOf e = 1) {r r' : List Int} (h : r.length = n) (h' : r'.length = n) (w : World) :
    (binOp .neq t (.agg (intCells r).toArray) (.agg (intCells r').toArray)).run P w = .ok (.bool (!decide (r = r'))) w := by
  have := run_equalIn_array (P := P) (w := w) 9999 (t := t) (intCells r).toArray (intCells r').toArray hu hi
  rw [hc, run_eqItems_ints 9998 he r r' w _ (fun j hj => by have := List.mem_range.1 hj; omega)] at this
  have e : decide (∀ i ∈ List.range n, r.getD i 0 = r'.getD i 0) = decide (r = r') := by rw [decide_eq_decide]; exact list_ext_getD h h'
  rw [e] at this
  simp [go_sem, this]

/-- The lists of a machine by value. -/
structure MLs (w : World) (D : Nat → Prop) (M : Mach) (vm vs vc vi vo : Value) (sv : List Value) : Prop where
  rl : M.r.length = 16
  m : Sl w D 1 vm M.m.length (intCells M.m)
  s : Sl w D 1 vs M.s.length sv
  l : Lists w D M vc vi vo sv
  d : ∀ k, D k → k < w.heap.size
section
variable {w w' : World} {D D' : Nat → Prop} {b off : Nat} {M : Mach} {vm vs vc vi vo : Value} {sv : List Value}
theorem MRd.mls (h : MRd w D b off M vm vs vc vi vo sv) : MLs w D M vm vs vc vi vo sv := ⟨h.rl, h.m, h.s, h.l, h.d⟩
theorem MLs.keep (h : MLs w D M vm vs vc vi vo sv) (hk : ∀ b o, D b → w'.cell? ⟨b, o, none⟩ = w.cell? ⟨b, o, none⟩) (hD : ∀ k, D k → D' k) (hd : ∀ k, D' k → k < w'.heap.size) : MLs w' D' M vm vs vc vi vo sv :=
  ⟨h.rl, h.m.keep hk hD, h.s.keep hk hD, h.l.keep hk hD, hd⟩
theorem MLs.next (h : MLs w D M vm vs vc vi vo sv) (hb : Below w.heap.size w w') : MLs w' D M vm vs vc vi vo sv :=
  h.keep (fun b o hd => hb.cell (p := ⟨b, o, none⟩) (h.d _ hd)) (fun _ h => h) fun k hk => Nat.lt_of_lt_of_le (h.d k hk) hb.size
/-- A machine by value, laid in a block. -/
theorem MLs.at_ {t : TypeId} (h : MLs w D M vm vs vc vi vo sv) (hk : Blk w b t (mcells M vm vs vc vi vo).toArray) : MRd w D b 0 M vm vs vc vi vo sv :=
  ⟨h.rl, hk.lt, fun j hj => by rw [hk.cell, List.getElem?_toArray, Nat.zero_add], h.m, h.s, h.l, h.d⟩
theorem MRd.range (h : MRd w D b off M vm vs vc vi vo sv) : w.rangeAt b off (mcells M vm vs vc vi vo) := fun j v hv => by
  have hl := (mc_get (M := M) (vm := vm) (vs := vs) (vc := vc) (vi := vi) (vo := vo) h.rl).2.2.2.2.2.2.2.2.2.2
  exact (h.c j (by have := (List.getElem?_eq_some_iff.1 hv).1; omega)).trans hv
theorem MRd.regs (h : MRd w D b off M vm vs vc vi vo sv) : w.rangeAt b (off + 2) (intCells M.r) := fun j v hv => by
  have hj : j < 16 := by have := (List.getElem?_eq_some_iff.1 hv).1; rw [intCells_length, h.rl] at this; exact this
  have := (mc_get (M := M) (vm := vm) (vs := vs) (vc := vc) (vi := vi) (vo := vo) h.rl).2.2.1 j hj
  rw [Nat.add_assoc, h.c (2 + j) (by omega), this, ← hv, intCells_get _ _ (by rw [h.rl]; exact hj)]
theorem MRd.c0 (h : MRd w D b off M vm vs vc vi vo sv) : w.cell? ⟨b, off, none⟩ = some (.int .i64 M.pc) := by have := h.c 0 (by decide); rw [Nat.add_zero] at this; rw [this]; rfl
theorem MRd.c1 (h : MRd w D b off M vm vs vc vi vo sv) : w.cell? ⟨b, off + 1, none⟩ = some (.int .i64 M.dir) := (h.c 1 (by decide)).trans rfl
theorem MRd.cr (h : MRd w D b off M vm vs vc vi vo sv) (k : Nat) (hk : k < 16) : w.cell? ⟨b, off + 2 + k, none⟩ = some (.int .i64 (M.r.getD k 0)) := by rw [Nat.add_assoc, h.c (2 + k) (by omega)]; exact (mc_get h.rl).2.2.1 k hk
theorem MRd.c18 (h : MRd w D b off M vm vs vc vi vo sv) : w.cell? ⟨b, off + 18, none⟩ = some vm := (h.c 18 (by decide)).trans (mc_get h.rl).2.2.2.1
theorem MRd.c19 (h : MRd w D b off M vm vs vc vi vo sv) : w.cell? ⟨b, off + 19, none⟩ = some vs := (h.c 19 (by decide)).trans (mc_get h.rl).2.2.2.2.1
theorem MRd.c20 (h : MRd w D b off M vm vs vc vi vo sv) : w.cell? ⟨b, off + 20, none⟩ = some vc := (h.c 20 (by decide)).trans (mc_get h.rl).2.2.2.2.2.1
theorem MRd.c21 (h : MRd w D b off M vm vs vc vi vo sv) : w.cell? ⟨b, off + 21, none⟩ = some (.int .i64 M.fp) := (h.c 21 (by decide)).trans (mc_get h.rl).2.2.2.2.2.2.1
theorem MRd.c22 (h : MRd w D b off M vm vs vc vi vo sv) : w.cell? ⟨b, off + 22, none⟩ = some (.int .i64 M.sb) := (h.c 22 (by decide)).trans (mc_get h.rl).2.2.2.2.2.2.2.1
theorem MRd.c23 (h : MRd w D b off M vm vs vc vi vo sv) : w.cell? ⟨b, off + 23, none⟩ = some vi := (h.c 23 (by decide)).trans (mc_get h.rl).2.2.2.2.2.2.2.2.1
theorem MRd.c24 (h : MRd w D b off M vm vs vc vi vo sv) : w.cell? ⟨b, off + 24, none⟩ = some vo := (h.c 24 (by decide)).trans (mc_get h.rl).2.2.2.2.2.2.2.2.2.1
theorem MRd.ls (h : MRd w D b off M vm vs vc vi vo sv) : SvRd w D sv M.s := h.l.1
theorem MRd.lc (h : MRd w D b off M vm vs vc vi vo sv) : Sl w D 2 vc M.calls.length (actCells M.calls) := h.l.2.1
theorem MRd.li (h : MRd w D b off M vm vs vc vi vo sv) : Sl w D 1 vi M.inp.length (intCells M.inp) := h.l.2.2.1
theorem MRd.lo (h : MRd w D b off M vm vs vc vi vo sv) : Sl w D 1 vo M.out.length (intCells M.out) := h.l.2.2.2
end
theorem Row.sl {w : World} {g : Nat} {v : Value} {xs : List Value} (h : Row w g v xs) (hg : g < w.heap.size) : Sl w (· = g) 1 v xs.length xs := by
  obtain ⟨A, cap, rfl, h1, h2, h3⟩ := h
  refine ⟨A, cap, rfl, h1, h2, by simp, fun hn => ?_⟩
  obtain ⟨rfl, t, cur, hB, hc⟩ := h3 hn
  exact ⟨g, 0, rfl, rfl, fun j u hu => by rw [Nat.zero_add, hB.cell]; exact hc j u hu⟩
/-- A machine that lies somewhere, read: its lists lie in its own rows and in no foreign block. -/
theorem MOn.rd' {w : World} {P : Pl} {M : Mach} {vm vs vc vi vo : Value} {sv : List Value} (h : MOn w P M vm vs vc vi vo sv) : MRd w (fun k => k < w.heap.size ∧ (k = P.gm ∨ k = P.gs ∨ P.D w k)) P.b P.off M vm vs vc vi vo sv :=
  ⟨h.rl, h.lt, h.cellAt, by have := h.m.sl h.gm; rw [intCells_length] at this; exact this.mono fun k hk => ⟨hk ▸ h.gm, .inl hk⟩, by have := h.s.sl h.gs; rw [h.l.1.1] at this; exact this.mono fun k hk => ⟨hk ▸ h.gs, .inr (.inl hk)⟩,
   h.l.keep (fun _ _ _ => rfl) fun _ hk => ⟨hk.1, .inr (.inr hk)⟩, fun _ hk => hk.1⟩
theorem MRd.mono {w : World} {D D' : Nat → Prop} {b off : Nat} {M : Mach} {vm vs vc vi vo : Value} {sv : List Value} (h : MRd w D b off M vm vs vc vi vo sv) (hD : ∀ k, D k → D' k) (hd : ∀ k, D' k → k < w.heap.size) : MRd w D' b off M vm vs vc vi vo sv :=
  ⟨h.rl, h.lt, h.c, h.m.mono hD, h.s.mono hD, h.l.keep (fun _ _ _ => rfl) hD, hd⟩
theorem MOn.rd {w : World} {P : Pl} {M : Mach} {vm vs vc vi vo : Value} {sv : List Value} (h : MOn w P M vm vs vc vi vo sv) : MRd w (· < w.heap.size) P.b P.off M vm vs vc vi vo sv := h.rd'.mono (fun _ h => h.1) fun _ h => h
/-- A machine that is read, over a change of other blocks. -/
theorem MRd.fr {w w' : World} {D O : Nat → Prop} {b off : Nat} {M : Mach} {vm vs vc vi vo : Value} {sv : List Value} (h : MRd w D b off M vm vs vc vi vo sv) (hf : Fr O w w') (hb : ¬ O b) (hO : ∀ k, D k → ¬ O k) : MRd w' D b off M vm vs vc vi vo sv :=
  have hk : ∀ b o, D b → w'.cell? ⟨b, o, none⟩ = w.cell? ⟨b, o, none⟩ := fun b o hd => hf.cell (h.d b hd) (hO b hd) o
  ⟨h.rl, Nat.lt_of_lt_of_le h.lt hf.size, fun j hj => (hf.cell h.lt hb _).trans (h.c j hj), h.m.keep hk fun _ h => h, h.s.keep hk fun _ h => h, h.l.keep hk fun _ h => h, fun k hk => Nat.lt_of_lt_of_le (h.d k hk) hf.size⟩
/-- A whole array or struct is loaded, in a region whose callees only add memory. -/
theorem quiet_loadG {P : Program} {W : World} {o : Oper} {a : Act} {K : Act → Prop} (ty : TypeId) {x : Operand} (ho : o.op = .load ty x) {p : Value} (hx : a.eval x = p) {v : Value} (h : ∀ z : Grw W, (Instr.loadAt ty p).run P (grow W z) = .ok v (grow W z))
    (hk : K (a.put o.dst v)) : o.quiet P a (fun w' => ∃ z : Grw W, w' = grow W z) K := by
  refine ⟨v, ?_, hk⟩
  rintro _ ⟨z, rfl⟩
  unfold Oper.quietAt execOp
  simp only [ho, hx, h z, Sem.run_bind, Sem.run_pure, Result.andThen_ok]
  exact ⟨rfl, rfl⟩
/-- The same in a region that keeps the text's order. -/
theorem wpList_loadG {P : Program} {ops : Array Oper} {rest : List Oper} {o : Oper} {a : Act} {w : World} {Q : Exit → Act → World → Prop} (ty : TypeId) {x : Operand} (ho : o.op = .load ty x) (hw : Region.wanted o (yielded ops a.tmps) = true) {p : Value} (hx : a.eval x = p) {v : Value} (h : (Instr.loadAt ty p).run P w = .ok v w)
    (hk : wpList P ops Q rest (a.put o.dst v) w) : wpList P ops Q (o :: rest) a w := by
  refine BigFrame.wpList_want hw fun K hK => ?_
  unfold Oper.wp execOp
  simp only [ho, hx, h, Sem.run_bind, Sem.run_pure, Result.andThen_ok]
  exact hK _ _ hk
end Bk
namespace Go.Proofs.YtbijhlgdilkopaaGreatDoor
open Go.RowKit Bk
theorem info_int1 : (Tryz.prog.info? 3).map (fun i => i.size) = some 1 := by kernel_rfl
theorem info_regs : (Tryz.prog.info? 50).map (fun i => i.size) = some 16 := by kernel_rfl
theorem cells_int1 : Tryz.prog.cellsOf 3 = 1 := by kernel_rfl
theorem eq_regs {r r' : List Int} (h : r.length = 16) (h' : r'.length = 16) (w : World) : (binOp .eql 50 (.agg (intCells r).toArray) (.agg (intCells r').toArray)).run Tryz.prog w = .ok (.bool (decide (r = r'))) w := by
  obtain ⟨i, hi, _⟩ := Option.map_eq_some_iff.1 info_int1
  exact run_eq_arr Tryz.underlying50 Tryz.underlying3 hi cells_int1 h h' w
theorem ne_regs {r r' : List Int} (h : r.length = 16) (h' : r'.length = 16) (w : World) : (binOp .neq 50 (.agg (intCells r).toArray) (.agg (intCells r').toArray)).run Tryz.prog w = .ok (.bool (!decide (r = r'))) w := by
  obtain ⟨i, hi, _⟩ := Option.map_eq_some_iff.1 info_int1
  exact run_ne_arr Tryz.underlying50 Tryz.underlying3 hi cells_int1 h h' w
/-- The registers are loaded. -/
theorem load_regs {w : World} {D : Nat → Prop} {b off : Nat} {M : Mach} {vm vs vc vi vo : Value} {sv : List Value} (h : MRd w D b off M vm vs vc vi vo sv) : (Instr.loadAt 50 (.pointer (some ⟨b, off + 2, none⟩))).run Tryz.prog w = .ok (.agg (intCells M.r).toArray) w :=
  run_loadAt_mid w b (off + 2) 50 (intCells M.r) _ h.regs Tryz.underlying50 rfl (by rw [info_regs, intCells_length, h.rl])
/-- A whole machine is loaded. -/
theorem load_mach {w : World} {D : Nat → Prop} {b off : Nat} {M : Mach} {vm vs vc vi vo : Value} {sv : List Value} (h : MRd w D b off M vm vs vc vi vo sv) : (Instr.loadAt 53 (.pointer (some ⟨b, off, none⟩))).run Tryz.prog w = .ok (.agg (mcells M vm vs vc vi vo).toArray) w :=
  run_loadAt_mid w b off 53 _ _ h.range Tryz.underlying53 rfl (by rw [info_mach, mc_len _ _ _ _ _ _ h.rl])
end Go.Proofs.YtbijhlgdilkopaaGreatDoor

/- A machine by value whose cells and stacks lie in rows of its own. -/
set_option linter.unusedVariables false
namespace Bk
open Go Go.RowKit
/-- A machine by value whose cells and stacks lie in rows of its own, all of it in blocks from B on. -/
def MOwn (w : World) (B : Nat) (M : Mach) (vm vs vc vi vo : Value) (sv : List Value) : Prop :=
  M.r.length = 16 ∧ ∃ gm gs, B ≤ gm ∧ B ≤ gs ∧ gm < w.heap.size ∧ gs < w.heap.size ∧ (0 < M.m.length → gm ≠ gs) ∧ Row w gm vm (intCells M.m) ∧ Row w gs vs sv ∧ Lists w (fun k => B ≤ k ∧ k < w.heap.size ∧ k ≠ gm ∧ k ≠ gs) M vc vi vo sv
theorem MOwn.next {w w' : World} {B : Nat} {M : Mach} {vm vs vc vi vo : Value} {sv : List Value} (h : MOwn w B M vm vs vc vi vo sv) (hb : Below w.heap.size w w') : MOwn w' B M vm vs vc vi vo sv := by
  obtain ⟨h0, gm, gs, h1, h2, h3, h4, h5, h6, h7, h8⟩ := h
  exact ⟨h0, gm, gs, h1, h2, Nat.lt_of_lt_of_le h3 hb.size, Nat.lt_of_lt_of_le h4 hb.size, h5, h6.keep fun _ => hb.block _ h3, h7.keep fun _ => hb.block _ h4, h8.keep (fun b o hd => hb.cell (p := ⟨b, o, none⟩) hd.2.1) fun k hk => ⟨hk.1, Nat.lt_of_lt_of_le hk.2.1 hb.size, hk.2.2⟩⟩
theorem MOwn.mono {w : World} {B B' : Nat} {M : Mach} {vm vs vc vi vo : Value} {sv : List Value} (h : MOwn w B M vm vs vc vi vo sv) (hB : B' ≤ B) : MOwn w B' M vm vs vc vi vo sv := by
  obtain ⟨h0, gm, gs, h1, h2, h3, h4, h5, h6, h7, h8⟩ := h
  exact ⟨h0, gm, gs, by omega, by omega, h3, h4, h5, h6, h7, h8.keep (fun _ _ _ => rfl) fun k hk => ⟨by have := hk.1; omega, hk.2⟩⟩
theorem MOwn.mls {w : World} {B : Nat} {M : Mach} {vm vs vc vi vo : Value} {sv : List Value} (h : MOwn w B M vm vs vc vi vo sv) : MLs w (fun k => B ≤ k ∧ k < w.heap.size) M vm vs vc vi vo sv := by
  obtain ⟨h0, gm, gs, h1, h2, h3, h4, h5, h6, h7, h8⟩ := h
  refine ⟨h0, ?_, ?_, h8.keep (fun _ _ _ => rfl) fun k hk => ⟨hk.1, hk.2.1⟩, fun k hk => hk.2⟩
  · have := h6.sl h3; rw [intCells_length] at this; exact this.mono fun k hk => hk ▸ ⟨h1, h3⟩
  · have := h7.sl h4; rw [h8.1.1] at this; exact this.mono fun k hk => hk ▸ ⟨h2, h4⟩
theorem MOwn.fr {w w' : World} {B : Nat} {M : Mach} {vm vs vc vi vo : Value} {sv : List Value} (h : MOwn w B M vm vs vc vi vo sv) {O : Nat → Prop} (hf : Fr O w w') (hO : ∀ k, B ≤ k → ¬ O k) : MOwn w' B M vm vs vc vi vo sv := by
  obtain ⟨h0, gm, gs, h1, h2, h3, h4, h5, h6, h7, h8⟩ := h
  exact ⟨h0, gm, gs, h1, h2, Nat.lt_of_lt_of_le h3 hf.size, Nat.lt_of_lt_of_le h4 hf.size, h5, h6.keep fun _ => hf.block _ h3 (hO _ h1), h7.keep fun _ => hf.block _ h4 (hO _ h2), h8.keep (fun b o hd => hf.cell hd.2.1 (hO _ hd.1) o) fun k hk => ⟨hk.1, Nat.lt_of_lt_of_le hk.2.1 hf.size, hk.2.2⟩⟩
theorem Fr.setRowE (w : World) (g : Nat) (cs : Array Value) : Fr (· = g) w (w.setRow g cs) := ⟨rfl, rfl, rfl, by simp, fun k _ hk => setRow_other w g k cs hk⟩
/-- .. laid in a block that is none of its own: it lies there. -/
theorem MOwn.on {w : World} {B b : Nat} {t : TypeId} {M : Mach} {vm vs vc vi vo : Value} {sv : List Value} (h : MOwn w B M vm vs vc vi vo sv) (w' : World) (hw : Below w.heap.size w w') (hk : Blk w' b t (mcells M vm vs vc vi vo).toArray) (hb : b < B ∨ w.heap.size ≤ b) :
    ∃ gm gs, B ≤ gm ∧ B ≤ gs ∧ gm < w.heap.size ∧ gs < w.heap.size ∧ MOn w' ⟨b, t, [], [], 0, gm, gs, (· < B)⟩ M vm vs vc vi vo sv := by
  have h' := h.next hw
  obtain ⟨h0, gm, gs, h1, h2, h3, h4, h5, h6, h7, h8⟩ := h
  refine ⟨gm, gs, h1, h2, h3, h4, rfl, h0, by simpa using hk, h6.keep fun _ => hw.block _ h3, h7.keep fun _ => hw.block _ h4, Nat.lt_of_lt_of_le h3 hw.size, Nat.lt_of_lt_of_le h4 hw.size, fun hn => ⟨by dsimp only; omega, h5 hn⟩, fun _ => by dsimp only; omega, ?_, fun k hk => by have := hw.size; dsimp only at hk; omega⟩
  refine h8.keep (fun b o hd => hw.cell (p := ⟨b, o, none⟩) hd.2.1) fun k hk => ⟨Nat.lt_of_lt_of_le hk.2.1 hw.size, fun ho => ?_⟩
  obtain ⟨k1, k2, k3, k4⟩ := hk
  rcases ho with e | e | e | e <;> dsimp only at e <;> omega
end Bk
