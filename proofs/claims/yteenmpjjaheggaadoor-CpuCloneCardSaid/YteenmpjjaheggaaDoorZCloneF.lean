/- cpu.Clone once more: the lists of a clone lie in memory that can be written. -/
import Derived.Test.YteenmpjjaheggaaDoorCpX
set_option linter.unusedVariables false
set_option linter.unusedSimpArgs false
set_option maxRecDepth 100000
set_option maxHeartbeats 8000000
namespace Bk
open Go Go.RowKit
/-- A block that can be written. -/
def Nf (w : World) (g : Nat) : Prop := ∃ t cs, Blk w g t cs
theorem Nf.lt {w : World} {g : Nat} (h : Nf w g) : g < w.heap.size := let ⟨_, _, h⟩ := h; h.lt
theorem Nf.next {w w' : World} {g : Nat} (h : Nf w g) (hb : Below w.heap.size w w') : Nf w' g := let ⟨t, cs, h⟩ := h; ⟨t, cs, h.next hb⟩
theorem Nf.set {w : World} {g : Nat} (h : Nf w g) (p : Addr) (u : Value) : Nf (w.setCell p u) g := by
  obtain ⟨t, cs, h⟩ := h
  by_cases e : p.block = g
  · unfold Nf Blk World.setCell
    dsimp only
    rw [Array.getElem?_modify, if_pos e, h]
    exact ⟨_, _, rfl⟩
  · exact ⟨t, cs, (Below.heap_setCell w p u g (fun h => e h.symm)).trans h⟩
theorem Nf.frozen {w : World} {g : Nat} (h : Nf w g) (o : Nat) : w.frozen? ⟨g, o, none⟩ = false := let ⟨_, _, h⟩ := h; h.frozen o
/-- A slice value whose block, if there is one, can be written. -/
def NfV (w : World) (v : Value) : Prop := ∀ p n c, v = .slice (some p) n c → Nf w p.block
theorem NfV.next {w w' : World} {v : Value} (h : NfV w v) (hb : Below w.heap.size w w') : NfV w' v := fun p n c e => (h p n c e).next hb
theorem NfV.set {w : World} {v : Value} (h : NfV w v) (p : Addr) (u : Value) : NfV (w.setCell p u) v := fun q n c e => (h q n c e).set p u
theorem NfV.own {w : World} {base : Nat} {e : TypeId} {sz n : Nat} {v : Value} {xs : List Value} (h : w.ownsRow base e sz v n xs) : NfV w v := by
  intro p m c ev
  rcases h.2 with ⟨rfl, _⟩ | ⟨g, cap, cur, rfl, hg, hh, _⟩
  · cases ev
  · injection ev with e1
    injection e1 with e1
    subst e1
    exact ⟨_, _, hh⟩
/-- The stacks that are laid: each can be written. -/
def NfS (w : World) (gs j : Nat) : Prop := ∀ k, k < j → ∀ v, w.cell? ⟨gs, k, none⟩ = some v → NfV w v
theorem NfS.next {w w' : World} {gs j : Nat} (h : NfS w gs j) (hg : gs < w.heap.size) (hb : Below w.heap.size w w') : NfS w' gs j := fun k hk v e => (h k hk v ((hb.cell (p := ⟨gs, k, none⟩) hg).symm.trans e)).next hb
theorem NfS.put {w : World} {gs j : Nat} {u x : Value} (h : NfS w gs j) (hx : w.cell? ⟨gs, j, none⟩ = some x) (hu : NfV w u) : NfS (w.setCell ⟨gs, j, none⟩ u) gs (j + 1) := by
  intro k hk v e
  by_cases h1 : k = j
  · subst h1
    rw [World.cell?_setCell_same w _ u hx] at e
    injection e with e; subst e
    exact hu.set _ _
  · rw [World.cell?_setCell_other w ⟨gs, j, none⟩ ⟨gs, k, none⟩ u (fun e => h1 (by injection e with _ e2; exact e2.symm))] at e
    exact (h k (by omega) v e).set _ _
theorem NfS.far {w : World} {gs j : Nat} (h : NfS w gs j) {g : Nat} (hg : g ≠ gs) (o : Nat) (u : Value) : NfS (w.setCell ⟨g, o, none⟩ u) gs j := fun k hk v e =>
  (h k hk v ((World.cell?_of_block (Below.heap_setCell w ⟨g, o, none⟩ u gs (fun e => hg e.symm))).symm.trans e)).set _ _
/-- A clone: a machine in new memory whose lists can be written. -/
def ClonedF (w : World) (t : TypeId) (M : Mach) (e : Ending) (w' : World) : Prop :=
  ∃ b gm gs vm vs vc vi vo sv, e = .returned (.pointer (some ⟨b, 0, none⟩)) ∧ w.heap.size ≤ b ∧ w.heap.size ≤ gm ∧ w.heap.size ≤ gs ∧ MOn w' ⟨b, t, [], [], 0, gm, gs, (· < w.heap.size)⟩ M vm vs vc vi vo sv ∧ Below w.heap.size w w' ∧ NfV w' vc ∧ NfV w' vi ∧ NfV w' vo ∧ ∀ (k : Nat) (u : Value), sv[k]? = some u → NfV w' u
theorem ClInv.doneF {w w3 wj : World} {tM tI : TypeId} {M : Mach} {vm vc vi vo : Value} {gm : Nat} (h : ClInv w w3 wj tM tI M vm vc vi vo gm M.s.length M.s.length) (hr : M.r.length = 16) (hg : w.heap.size < w3.heap.size) (h0 : w.heap.size ≤ gm) (h1 : gm < w3.heap.size) (h2 : 0 < (intCells M.m).length → gm ≠ w.heap.size)
    (hc : Sl wj (fun b => w3.heap.size < b ∧ b < wj.heap.size) 2 vc M.calls.length (actCells M.calls)) (hi : Sl wj (fun b => w3.heap.size < b ∧ b < wj.heap.size) 1 vi M.inp.length (intCells M.inp)) (ho : Sl wj (fun b => w3.heap.size < b ∧ b < wj.heap.size) 1 vo M.out.length (intCells M.out))
    (fc : NfV wj vc) (fi : NfV wj vi) (fo : NfV wj vo) (fs : NfS wj w3.heap.size M.s.length) :
    ClonedF w tM M (.returned (.pointer (some ⟨w.heap.size, 0, none⟩))) wj := by
  obtain ⟨sv, s1, s2, s3⟩ := h.s
  have hl := h.l
  have dm : ∀ k, (w3.heap.size < k ∧ k < wj.heap.size) → Pl.D ⟨w.heap.size, tM, [], [], 0, gm, w3.heap.size, (· < w.heap.size)⟩ wj k := fun k hk => ⟨hk.2, fun ho => by rcases ho with e | e | e | e <;> (dsimp only at e; omega)⟩
  refine ⟨w.heap.size, gm, w3.heap.size, vm, .slice (some ⟨w3.heap.size, 0, none⟩) M.s.length M.s.length, vc, vi, vo, sv, rfl, Nat.le_refl _, h0, by omega, ⟨rfl, hr, ?_, h.m, ?_, by dsimp only; omega, hl, fun hn => ⟨h2 (by rw [intCells_length]; exact hn), by dsimp only; omega⟩, fun _ => by dsimp only; omega, ⟨⟨s1, fun k hk => ?_⟩, hc.mono dm, hi.mono dm, ho.mono dm⟩, fun k hk => by have := h.b.size; dsimp only at hk; omega⟩, h.b, fc, fi, fo, fun k u hu => ?_⟩
  · have := h.k
    simpa using this
  · exact ⟨some ⟨w3.heap.size, 0, none⟩, M.s.length, by rw [s1], by omega, (fun e => by cases e), fun _ => ⟨rfl, tI, _, s2, fun j u hu => by rw [List.getElem?_toArray]; exact hu⟩⟩
  · obtain ⟨u, hu, hs⟩ := s3 k hk
    exact ⟨u, hu, hs.mono dm⟩
  · exact fs k (by have := (List.getElem?_eq_some_iff.1 hu).1; omega) u (by rw [s2.cell, List.getElem?_toArray]; exact hu)
end Bk
namespace Go.Proofs.YteenmpjjaheggaaDoor
open Go.RowKit Bk
theorem c_CloneF {w : World} {D : Nat → Prop} {b off : Nat} {M : Mach} {vm vs vc vi vo : Value} {sv : List Value} (h : MRd w D b off M vm vs vc vi vo sv) (hB : MLn M) :
    Calls Tryd.prog 9 #[.pointer (some ⟨b, off, none⟩)] w (ClonedF w 27 M) := by
  obtain ⟨Am, cm, rfl, hcm, hAm, hRm⟩ := h.m
  obtain ⟨Av, cv, rfl, hcv, hAv, hRv⟩ := h.s
  obtain ⟨Ac, cc, rfl, hcc, hAc, hRc⟩ := h.l.2.1
  obtain ⟨Ai, ci, rfl, hci, hAi, hRi⟩ := h.l.2.2.1
  obtain ⟨Ao, co, rfl, hco, hAo, hRo⟩ := h.l.2.2.2
  have HM := Lib.hid h; have HB := Lib.hid hB
  have hlt := h.lt
  have hlen := mc_len M (.slice Am M.m.length cm) (.slice Av M.s.length cv) (.slice Ac M.calls.length cc) (.slice Ai M.inp.length ci) (.slice Ao M.out.length co) h.rl
  have hcs : w.rangeAt b off (mcells M (.slice Am M.m.length cm) (.slice Av M.s.length cv) (.slice Ac M.calls.length cc) (.slice Ai M.inp.length ci) (.slice Ao M.out.length co)) := fun j v hv => (h.c j (by have := (List.getElem?_eq_some_iff.1 hv).1; omega)).trans hv
  have hone : ∀ v ∈ (mcells M (.slice Am M.m.length cm) (.slice Av M.s.length cv) (.slice Ac M.calls.length cc) (.slice Ai M.inp.length ci) (.slice Ao M.out.length co)), v.oneCell' = true := by
    intro v hv
    simp only [mcells, List.mem_cons, List.mem_append, List.not_mem_nil, or_false] at hv
    rcases hv with rfl | rfl | hv | rfl | rfl | rfl | rfl | rfl | rfl | rfl <;> first | rfl | exact oneInt _ _ hv
  obtain ⟨i0, hi0, hz0, hs0, hb0⟩ := info_parts info_ints
  have mk0 : ∀ W : World, (Instr.makeSlice 24 (.int .i64 (M.s.length : Int)) (.int .i64 (M.s.length : Int))).run Tryd.prog W = .ok (.slice (some ⟨W.heap.size, 0, none⟩) M.s.length M.s.length) (W.alloc (.cells (madeCells #[.slice none 0 0] M.s.length) 23)) := fun W => by
    have := run_make_rowN (P := Tryd.prog) 24 23 i0 _ Tryd.underlying24 hi0 hz0 .i64 .i64 M.s.length M.s.length (Nat.le_refl _) (by rw [hb0]; have := hB.sl; omega) (by have := hB.sl; omega) W
    rw [hs0, Nat.mul_one] at this; exact this
  have HC := Lib.hid hcs; have HRV := Lib.hid hRv; have HO := Lib.hid hone; have HL := Lib.hid hlen
  clear hcs hone hlen hB hRv hRm hRc hRi hRo hcm hcv hcc hci hco hAm hAv hAc hAi hAo h hi0 hz0 hs0 hb0
  go_enter Tryd.func9, Tryd.ntmps9
  go_upto_region 3 with fail
  refine wp_region_lit ?_
  refine Great.wpList_runTo rfl (some 8) rfl (.pointer (some ⟨b, off, none⟩)) w rfl ?_
  refine Great.wpList_runTo rfl (some 9) rfl (.pointer (some ⟨b, off, none⟩)) w rfl ?_
  refine wpList_load_mid rfl 27 (.tmp 9) rfl b off rfl (mcells M (.slice Am M.m.length cm) (.slice Av M.s.length cv) (.slice Ac M.calls.length cc) (.slice Ai M.inp.length ci) (.slice Ao M.out.length co)) _ HC.out (by exact Tryd.underlying27) rfl (by rw [info_mach, HL.out]) ?_
  refine Great.wpList_allocTo rfl (some 3) rfl (.pointer (some ⟨w.heap.size, 0, none⟩)) (.cells #[.int .i64 0, .int .i64 0, .int .i64 0, .int .i64 0, .int .i64 0, .int .i64 0, .int .i64 0, .int .i64 0, .int .i64 0, .int .i64 0, .int .i64 0, .int .i64 0, .int .i64 0, .int .i64 0, .int .i64 0, .int .i64 0, .int .i64 0, .int .i64 0, .slice none 0 0, .slice none 0 0, .slice none 0 0, .int .i64 0, .int .i64 0, .slice none 0 0, .slice none 0 0] 27) (by simp [execOp, Instr.alloc, newVar, Sem.run_bind, Value.cells, newRow]) ?_
  refine wpList_store_row rfl 27 (.tmp 3) (.tmp 10) rfl w.heap.size ((mcells M (.slice Am M.m.length cm) (.slice Av M.s.length cv) (.slice Ac M.calls.length cc) (.slice Ai M.inp.length ci) (.slice Ao M.out.length co))).toArray rfl rfl 27 #[.int .i64 0, .int .i64 0, .int .i64 0, .int .i64 0, .int .i64 0, .int .i64 0, .int .i64 0, .int .i64 0, .int .i64 0, .int .i64 0, .int .i64 0, .int .i64 0, .int .i64 0, .int .i64 0, .int .i64 0, .int .i64 0, .int .i64 0, .int .i64 0, .slice none 0 0, .slice none 0 0, .slice none 0 0, .int .i64 0, .int .i64 0, .slice none 0 0, .slice none 0 0] (heap_alloc_new w _) (by rw [info_mach]; simp [HL.out]) (by simp [HL.out]) (all_oneCell_toArray HO.out) ?_
  refine wpList_nil ?_
  rename_i K hK
  obtain ⟨w2, hw2⟩ : ∃ w2, w2 = (w.alloc (.cells #[.int .i64 0, .int .i64 0, .int .i64 0, .int .i64 0, .int .i64 0, .int .i64 0, .int .i64 0, .int .i64 0, .int .i64 0, .int .i64 0, .int .i64 0, .int .i64 0, .int .i64 0, .int .i64 0, .int .i64 0, .int .i64 0, .int .i64 0, .int .i64 0, .slice none 0 0, .slice none 0 0, .slice none 0 0, .int .i64 0, .int .i64 0, .slice none 0 0, .slice none 0 0] 27)).setRow w.heap.size ((mcells M (.slice Am M.m.length cm) (.slice Av M.s.length cv) (.slice Ac M.calls.length cc) (.slice Ai M.inp.length ci) (.slice Ao M.out.length co))).toArray := ⟨_, rfl⟩
  rw [← hw2]
  rw [World.setRow_alloc_new] at hw2
  have hb2 : Below w.heap.size w w2 := by rw [hw2]; exact (Below.refl _ w).alloc (Nat.le_refl _) _
  have hk2 : Blk w2 w.heap.size 27 ((mcells M (.slice Am M.m.length cm) (.slice Av M.s.length cv) (.slice Ac M.calls.length cc) (.slice Ai M.inp.length ci) (.slice Ao M.out.length co))).toArray := by rw [hw2]; exact Blk.new _ _ _
  clear hw2
  refine hK _ _ ?_
  clear hK
  have G := mc_get (M := M) (vm := .slice Am M.m.length cm) (vs := .slice Av M.s.length cv) (vc := .slice Ac M.calls.length cc) (vi := .slice Ai M.inp.length ci) (vo := .slice Ao M.out.length co) HM.out.rl
  have e18 := (HM.out.c 18 (by decide)).trans G.2.2.2.1; have e19 := (HM.out.c 19 (by decide)).trans G.2.2.2.2.1; have e20 := (HM.out.c 20 (by decide)).trans G.2.2.2.2.2.1; have e23 := (HM.out.c 23 (by decide)).trans G.2.2.2.2.2.2.2.2.1; have e24 := (HM.out.c 24 (by decide)).trans G.2.2.2.2.2.2.2.2.2.1
  clear G
  have HE18 := Lib.hid e18; have HE19 := Lib.hid e19; have HE20 := Lib.hid e20; have HE23 := Lib.hid e23; have HE24 := Lib.hid e24
  clear e18 e19 e20 e23 e24
  have E18 := (hb2.cell (p := ⟨b, off + 18, none⟩) hlt).trans HE18.out
  have HB2 := Lib.hid hb2
  have HK2 := Lib.hid hk2
  have H2 := Lib.hid (HM.out.next hb2)
  clear hb2 hk2
  simp only [Act.put]
  go_wp2_with fail
  refine (c_CloneI H2.out.m (by have := HB.out.ml; omega)).mono ?_
  rintro e w3 ⟨vm', rfl, ho3, hb3⟩
  have HB3 := Lib.hid (HB2.out.next (hb3))
  have HK3 := Lib.hid (HK2.out.next hb3)
  have HO3 := Lib.hid ho3
  have E18 := HK3.out.cell 18
  have F18 := HK3.out.frozen 18
  clear ho3 hb3
  obtain ⟨am', cm', rfl⟩ := own_form HO3.out
  have hgw : w.heap.size < w2.heap.size := HK2.out.lt
  obtain ⟨gm, gm0, gm1, gm2, hrow⟩ := Row.of_own HO3.out (intCells_length _) w.heap.size hgw HK3.out.lt
  have HROW := Lib.hid hrow
  clear hrow
  have hg3 : w.heap.size < w3.heap.size := HK3.out.lt
  simp only [List.getElem?_toArray, (mc_get (M := M) (vm := .slice Am M.m.length cm) (vs := .slice Av M.s.length cv) (vc := .slice Ac M.calls.length cc) (vi := .slice Ai M.inp.length ci) (vo := .slice Ao M.out.length co) HM.out.rl).2.2.2.1] at E18
  have E19 := HK3.out.cell 19
  have F19 := HK3.out.frozen 19
  simp only [List.getElem?_toArray, (mc_get (M := M) (vm := .slice Am M.m.length cm) (vs := .slice Av M.s.length cv) (vc := .slice Ac M.calls.length cc) (vi := .slice Ai M.inp.length ci) (vo := .slice Ao M.out.length co) HM.out.rl).2.2.2.2.1] at E19
  have A19 := (HB3.out.cell (p := ⟨b, off + 19, none⟩) hlt).trans HE19.out
  have hne : b ≠ w.heap.size := by omega
  have hms : M.s.length ≤ 16384 := HB.out.sl
  go_upto_region 6 with fail
  refine wp_nameY ?_
  intro w4 hw4
  have hI : ClInv w w3 w4 27 23 M (.slice am' M.m.length cm') (.slice Ac M.calls.length cc) (.slice Ai M.inp.length ci) (.slice Ao M.out.length co) gm M.s.length 0 := by
    have hB3 := HB3.out
    have k1 : Blk (w3.setCell ⟨w.heap.size, 18, none⟩ (.slice am' M.m.length cm')) w.heap.size 27 (mcells M (.slice am' M.m.length cm') (.slice Av M.s.length cv) (.slice Ac M.calls.length cc) (.slice Ai M.inp.length ci) (.slice Ao M.out.length co)).toArray := HK3.out.mset HM.out.rl 0 _
    have k2 : Blk ((w3.setCell ⟨w.heap.size, 18, none⟩ (.slice am' M.m.length cm')).setCell ⟨w.heap.size, 19, none⟩ (.slice (some ⟨w3.heap.size, 0, none⟩) M.s.length M.s.length)) w.heap.size 27 (mcells M (.slice am' M.m.length cm') (.slice (some ⟨w3.heap.size, 0, none⟩) M.s.length M.s.length) (.slice Ac M.calls.length cc) (.slice Ai M.inp.length ci) (.slice Ao M.out.length co)).toArray := k1.mset HM.out.rl 1 _
    refine ⟨by rw [hw4]; exact (by go_grown), by rw [hw4]; exact k2.alloc _, HROW.out.keep fun hn => ?_, by rw [hw4]; simp [World.setCell], (madeCells #[.slice none 0 0] M.s.length).toList, by simp [size_madeCells], ?_, fun k hk => by omega⟩
    · have g := gm2 hn
      rw [hw4]
      exact (Below.heap_alloc _ _ _ (by simp [World.setCell]; omega)).trans ((Below.heap_setCell _ ⟨w.heap.size, 19, none⟩ _ _ g).trans (Below.heap_setCell _ ⟨w.heap.size, 18, none⟩ _ _ g))
    · rw [hw4, Array.toArray_toList]
      exact Blk.new' (by simp [World.setCell]) _ _
  clear hw4 E18 F18 E19 F19 A19 mk0
  have HI := Lib.hid hI
  have HNS := Lib.hid (show NfS w4 w3.heap.size 0 from fun k hk => absurd hk (Nat.not_lt_zero _))
  have A19 := (HI.out.b.cell (p := ⟨b, off + 19, none⟩) hlt).trans HE19.out
  clear hI
  go_wp2_with fail
  go_loopw [29] (fun v wr => ∃ j : Nat, j ≤ M.s.length ∧ v = .int .i64 j ∧ ClInv w w3 wr 27 23 M (.slice am' M.m.length cm') (.slice Ac M.calls.length cc) (.slice Ai M.inp.length ci) (.slice Ao M.out.length co) gm M.s.length j ∧ NfS wr w3.heap.size j) (fun v _ => M.s.length - (intOf v).toNat)
  case atStart => exact ⟨0, Nat.zero_le _, rfl, HI.out, HNS.out⟩
  case round =>
    obtain ⟨j, hj, rfl, hI, hNS⟩ := hrel
    have HJ := Lib.hid hI
    have HS := Lib.hid hNS
    clear hNS
    clear A19 hI
    by_cases hlt' : j < M.s.length
    · obtain ⟨bs, os, rfl, hds, hcell⟩ := HRV.out.2 (by omega)
      obtain ⟨u, hu, hsl⟩ := HM.out.l.1.2 j hlt'
      have hbs : bs < w.heap.size := HM.out.d _ hds
      have cu := (HJ.out.b.cell (p := ⟨bs, os + j, none⟩) hbs).trans (hcell j u hu)
      have HSl := Lib.hid (hsl.keep (fun b o hd => HJ.out.b.cell (p := ⟨b, o, none⟩) (HM.out.d _ hd)) (D' := (· < wr.heap.size)) (fun k hk => Nat.lt_of_lt_of_le (HM.out.d k hk) HJ.out.b.size))
      have hlen' : (M.s.getD j []).length ≤ 20000000000000 := HB.out.st _ (getD_mem hlt')
      obtain ⟨lj, hlj⟩ : ∃ l, l = M.s.getD j [] := ⟨_, rfl⟩
      rw [← hlj] at hsl HSl hlen'
      have HLJ := Lib.hid hlj
      clear hlj
      obtain ⟨Au, cc', rfl, _⟩ := hsl
      have cg := HJ.out.k.cell 19
      simp only [List.getElem?_toArray, (mc_get (M := M) (vm := .slice am' M.m.length cm') (vs := .slice (some ⟨w3.heap.size, 0, none⟩) M.s.length M.s.length) (vc := .slice Ac M.calls.length cc) (vi := .slice Ai M.inp.length ci) (vo := .slice Ao M.out.length co) HM.out.rl).2.2.2.2.1] at cg
      have j0 : (0 : Int) ≤ (j : Int) := by omega
      have j1 : (j : Int) < (M.s.length : Int) := by omega
      have hw3r : w3.heap.size < wr.heap.size := HJ.out.l
      clear hcell hu hds
      have hgmr : gm < wr.heap.size := by omega
      go_upto_region 9 with fail
      go_region_held3 (fun w' => w'.cell? ⟨w.heap.size, 19, none⟩ = some (.slice (some ⟨w3.heap.size, 0, none⟩) M.s.length M.s.length)) (go_simp) (first | (go_at_call 33; ((with_reducible refine (c_CloneI (HSl.out.keep (D' := (· < wr.heap.size)) (fun b' o hd => cell_up hd (by go_grown)) (fun _ h => h)) (by omega)).mono ?_); rintro e w5 ⟨u', rfl, ho5, hb5⟩; have hB5 : Below wr.heap.size wr w5 := Below.trans (by go_grown) (hb5.mono (by go_size)); have HJ5 := Lib.hid (HJ.out.next hB5 hgmr); obtain ⟨old, co, fo⟩ := HJ5.out.cell j hlt'; have HO5 := Lib.hid (Sl.own ho5 (B := w3.heap.size) (by go_size)); have HS5 := Lib.hid (HS.out.next hw3r hB5); have HU5 := Lib.hid (NfV.own ho5); obtain ⟨a5, c5, rfl⟩ := own_form ho5; have cg5 := HJ5.out.c19 HM.out.rl; clear ho5 hb5 hB5)))
      all_goals (go_wp2_with fail; exact ⟨⟨j + 1, by omega, by go_num, HJ5.out.put hg3 gm1 _ hlt' (by rw [← HLJ.out]; exact HO5.out), HS5.out.put (Classical.choose_spec (HJ5.out.cell j hlt')).1 HU5.out⟩, by simp [intOf]; omega⟩)
    · obtain rfl : j = M.s.length := by omega
      have A20 := (HJ.out.b.cell (p := ⟨b, off + 20, none⟩) hlt).trans HE20.out
      go_wp2_with fail
      refine (c_CloneA (HM.out.next HJ.out.b).l.2.1 (by have := HB.out.cl; omega)).mono ?_
      rintro e w5 ⟨vc', rfl, ho5, hb5⟩
      have hgmr : gm < wr.heap.size := by have := HJ.out.l; omega
      have hgm5 : gm < w5.heap.size := by have := hb5.size; omega
      have HJ5 := Lib.hid (HJ.out.next hb5 hgmr)
      have HO5 := Lib.hid (Sl.own ho5 (B := w3.heap.size) HJ.out.l)
      have HC5 := Lib.hid (NfV.own ho5)
      have HS5 := Lib.hid (HS.out.next HJ.out.l hb5)
      obtain ⟨a5, c5, rfl⟩ := own_form ho5
      have E20 := HJ5.out.k.cell 20
      have F20 := HJ5.out.k.frozen 20
      simp only [List.getElem?_toArray, (mc_get (M := M) (vm := .slice am' M.m.length cm') (vs := .slice (some ⟨w3.heap.size, 0, none⟩) M.s.length M.s.length) (vc := .slice Ac M.calls.length cc) (vi := .slice Ai M.inp.length ci) (vo := .slice Ao M.out.length co) HM.out.rl).2.2.2.2.2.1] at E20
      have A23 := (HJ5.out.b.cell (p := ⟨b, off + 23, none⟩) hlt).trans HE23.out
      clear A20 ho5 hb5
      go_wp2_with fail
      refine calls_nameY ?_
      intro w6 hw6
      have HJ6 := Lib.hid (HJ5.out.top HM.out.rl hg3 gm2 2 (.slice a5 M.calls.length c5) rfl); simp only [Nat.reduceAdd] at HJ6
      have HO6 := Lib.hid (HO5.out.farset (g := w.heap.size) (o := 20) (u := .slice a5 M.calls.length c5) (by omega))
      have HC6 := Lib.hid (HC5.out.set ⟨w.heap.size, 20, none⟩ (.slice a5 M.calls.length c5))
      have HS6 := Lib.hid (HS5.out.far (g := w.heap.size) (by omega) 20 (.slice a5 M.calls.length c5))
      rw [← hw6] at HJ6 HO6 HC6 HS6
      have hgm6 : gm < w6.heap.size := by rw [hw6]; simpa [World.setCell] using hgm5
      clear hw6 E20 F20 A23
      refine (c_CloneI (HM.out.next HJ6.out.b).l.2.2.1 (by have := HB.out.il; omega)).mono ?_
      rintro e w7 ⟨vi', rfl, ho7, hb7⟩
      have hgm7 : gm < w7.heap.size := by have := hb7.size; omega
      have HJ7 := Lib.hid (HJ6.out.next hb7 hgm6)
      have HO7 := Lib.hid (HO6.out.upB hb7)
      have HI7 := Lib.hid (Sl.own ho7 (B := w3.heap.size) HJ6.out.l)
      have HN7 := Lib.hid (NfV.own ho7)
      have HC7 := Lib.hid (HC6.out.next hb7)
      have HS7 := Lib.hid (HS6.out.next HJ6.out.l hb7)
      obtain ⟨a7, c7, rfl⟩ := own_form ho7
      have E23 := HJ7.out.k.cell 23
      have F23 := HJ7.out.k.frozen 23
      simp only [List.getElem?_toArray, (mc_get (M := M) (vm := .slice am' M.m.length cm') (vs := .slice (some ⟨w3.heap.size, 0, none⟩) M.s.length M.s.length) (vc := .slice a5 M.calls.length c5) (vi := .slice Ai M.inp.length ci) (vo := .slice Ao M.out.length co) HM.out.rl).2.2.2.2.2.2.2.2.1] at E23
      have A24 := (HJ7.out.b.cell (p := ⟨b, off + 24, none⟩) hlt).trans HE24.out
      clear ho7 hb7
      go_wp2_with fail
      refine calls_nameY ?_
      intro w8 hw8
      have HJ8 := Lib.hid (HJ7.out.top HM.out.rl hg3 gm2 5 (.slice a7 M.inp.length c7) rfl); simp only [Nat.reduceAdd] at HJ8
      have HO8 := Lib.hid (HO7.out.farset (g := w.heap.size) (o := 23) (u := .slice a7 M.inp.length c7) (by omega))
      have HI8 := Lib.hid (HI7.out.farset (g := w.heap.size) (o := 23) (u := .slice a7 M.inp.length c7) (by omega))
      have HC8 := Lib.hid (HC7.out.set ⟨w.heap.size, 23, none⟩ (.slice a7 M.inp.length c7))
      have HN8 := Lib.hid (HN7.out.set ⟨w.heap.size, 23, none⟩ (.slice a7 M.inp.length c7))
      have HS8 := Lib.hid (HS7.out.far (g := w.heap.size) (by omega) 23 (.slice a7 M.inp.length c7))
      rw [← hw8] at HJ8 HO8 HI8 HC8 HN8 HS8
      have hgm8 : gm < w8.heap.size := by rw [hw8]; simpa [World.setCell] using hgm7
      clear hw8 E23 F23 A24
      refine (c_CloneI (HM.out.next HJ8.out.b).l.2.2.2 (by have := HB.out.ol; omega)).mono ?_
      rintro e w9 ⟨vo', rfl, ho9, hb9⟩
      have HJ9 := Lib.hid (HJ8.out.next hb9 hgm8)
      have HO9 := Lib.hid (HO8.out.upB hb9)
      have HI9 := Lib.hid (HI8.out.upB hb9)
      have HU9 := Lib.hid (Sl.own ho9 (B := w3.heap.size) HJ8.out.l)
      have HW9 := Lib.hid (NfV.own ho9)
      have HC9 := Lib.hid (HC8.out.next hb9)
      have HN9 := Lib.hid (HN8.out.next hb9)
      have HS9 := Lib.hid (HS8.out.next HJ8.out.l hb9)
      obtain ⟨a9, c9, rfl⟩ := own_form ho9
      have E24 := HJ9.out.k.cell 24
      have F24 := HJ9.out.k.frozen 24
      simp only [List.getElem?_toArray, (mc_get (M := M) (vm := .slice am' M.m.length cm') (vs := .slice (some ⟨w3.heap.size, 0, none⟩) M.s.length M.s.length) (vc := .slice a5 M.calls.length c5) (vi := .slice a7 M.inp.length c7) (vo := .slice Ao M.out.length co) HM.out.rl).2.2.2.2.2.2.2.2.2.1] at E24
      clear ho9 hb9
      go_wp2_with fail
      go_ret
      exact (HJ9.out.top HM.out.rl hg3 gm2 6 (.slice a9 M.out.length c9) rfl).doneF HM.out.rl hg3 gm0 gm1 gm2 (HO9.out.farset (by omega)) (HI9.out.farset (by omega)) (HU9.out.farset (by omega)) (HC9.out.set _ _) (HN9.out.set _ _) (HW9.out.set _ _) (HS9.out.far (by omega) _ _)
end Go.Proofs.YteenmpjjaheggaaDoor
