/- Clone, Equal, ref.Equal under bounds of the lengths alone. -/
import Derived.Test.YtmccbgnonmgbeaaDoorZREq
set_option linter.unusedVariables false
set_option linter.unusedSimpArgs false
namespace Bk
/-- Bounds of a machine's lengths. -/
structure MLn (M : Mach) : Prop where
  ml : M.m.length ≤ 16384
  sl : M.s.length ≤ 16384
  cl : M.calls.length ≤ 10000
  il : M.inp.length ≤ 100000
  ol : M.out.length ≤ 100000
  st : ∀ l ∈ M.s, l.length ≤ 1000000
theorem MBd.ln {M : Mach} (h : MBd M) : MLn M := ⟨h.ml, h.sl, Nat.le_trans h.cl (by decide), Nat.le_trans h.il (by decide), Nat.le_trans h.ol (by decide), h.st⟩
end Bk
namespace Go.Proofs.YtmccbgnonmgbeaaDoor
open Go.RowKit Bk
set_option maxRecDepth 100000 in
set_option maxHeartbeats 2000000 in
theorem c_CloneL {w : World} {D : Nat → Prop} {b off : Nat} {M : Mach} {vm vs vc vi vo : Value} {sv : List Value} (h : MRd w D b off M vm vs vc vi vo sv) (hB : MLn M) :
    Calls Tryd.prog 15 #[.pointer (some ⟨b, off, none⟩)] w (Cloned w 30 M) := by
  obtain ⟨Am, cm, rfl, hcm, hAm, hRm⟩ := h.m
  obtain ⟨Av, cv, rfl, hcv, hAv, hRv⟩ := h.s
  obtain ⟨Ac, cc, rfl, hcc, hAc, hRc⟩ := h.l.2.1
  obtain ⟨Ai, ci, rfl, hci, hAi, hRi⟩ := h.l.2.2.1
  obtain ⟨Ao, co, rfl, hco, hAo, hRo⟩ := h.l.2.2.2
  have HM := Lib.hid h; have HB := Lib.hid hB
  have hlt := h.lt
  have hlen := mc_len M (.slice Am M.m.length cm) (.slice Av M.s.length cv) (.slice Ac M.calls.length cc) (.slice Ai M.inp.length ci) (.slice Ao M.out.length co) h.rl
  have hcs : w.rangeAt b off (mcells M (.slice Am M.m.length cm) (.slice Av M.s.length cv) (.slice Ac M.calls.length cc) (.slice Ai M.inp.length ci) (.slice Ao M.out.length co)) := fun j v hv => (h.c j (by have := (List.getElem?_eq_some_iff.1 hv).1; omega)).trans hv
  have hone : ∀ v ∈ (mcells M (.slice Am M.m.length cm) (.slice Av M.s.length cv) (.slice Ac M.calls.length cc) (.slice Ai M.inp.length ci) (.slice Ao M.out.length co)), v.oneCell' = true := by
    intro v hv
    simp only [mcells, List.mem_cons, List.mem_append, List.not_mem_nil, or_false] at hv
    rcases hv with rfl | rfl | hv | rfl | rfl | rfl | rfl | rfl | rfl | rfl <;> first | rfl | exact oneInt _ _ hv
  obtain ⟨i0, hi0, hz0, hs0, hb0⟩ := info_parts info_ints
  have mk0 : ∀ W : World, (Instr.makeSlice 27 (.int .i64 (M.s.length : Int)) (.int .i64 (M.s.length : Int))).run Tryd.prog W = .ok (.slice (some ⟨W.heap.size, 0, none⟩) M.s.length M.s.length) (W.alloc (.cells (madeCells #[.slice none 0 0] M.s.length) 26)) := fun W => by
    have := run_make_rowN (P := Tryd.prog) 27 26 i0 _ Tryd.underlying27 hi0 hz0 .i64 .i64 M.s.length M.s.length (Nat.le_refl _) (by rw [hb0]; have := hB.sl; omega) (by have := hB.sl; omega) W
    rw [hs0, Nat.mul_one] at this; exact this
  have HC := Lib.hid hcs; have HRV := Lib.hid hRv; have HO := Lib.hid hone; have HL := Lib.hid hlen
  clear hcs hone hlen hB hRv hRm hRc hRi hRo hcm hcv hcc hci hco hAm hAv hAc hAi hAo h hi0 hz0 hs0 hb0
  go_enter Tryd.func15, Tryd.ntmps15
  go_upto_region 3 with fail
  refine wp_region_lit ?_
  refine Great.wpList_runTo rfl (some 8) rfl (.pointer (some ⟨b, off, none⟩)) w rfl ?_
  refine Great.wpList_runTo rfl (some 9) rfl (.pointer (some ⟨b, off, none⟩)) w rfl ?_
  refine wpList_load_mid rfl 30 (.tmp 9) rfl b off rfl (mcells M (.slice Am M.m.length cm) (.slice Av M.s.length cv) (.slice Ac M.calls.length cc) (.slice Ai M.inp.length ci) (.slice Ao M.out.length co)) _ HC.out (by exact Tryd.underlying30) rfl (by rw [info_mach, HL.out]) ?_
  refine Great.wpList_allocTo rfl (some 3) rfl (.pointer (some ⟨w.heap.size, 0, none⟩)) (.cells #[.int .i64 0, .int .i64 0, .int .i64 0, .int .i64 0, .int .i64 0, .int .i64 0, .int .i64 0, .int .i64 0, .int .i64 0, .int .i64 0, .int .i64 0, .int .i64 0, .int .i64 0, .int .i64 0, .int .i64 0, .int .i64 0, .int .i64 0, .int .i64 0, .slice none 0 0, .slice none 0 0, .slice none 0 0, .int .i64 0, .int .i64 0, .slice none 0 0, .slice none 0 0] 30) (by simp [execOp, Instr.alloc, newVar, Sem.run_bind, Value.cells, newRow]) ?_
  refine wpList_store_row rfl 30 (.tmp 3) (.tmp 10) rfl w.heap.size ((mcells M (.slice Am M.m.length cm) (.slice Av M.s.length cv) (.slice Ac M.calls.length cc) (.slice Ai M.inp.length ci) (.slice Ao M.out.length co))).toArray rfl rfl 30 #[.int .i64 0, .int .i64 0, .int .i64 0, .int .i64 0, .int .i64 0, .int .i64 0, .int .i64 0, .int .i64 0, .int .i64 0, .int .i64 0, .int .i64 0, .int .i64 0, .int .i64 0, .int .i64 0, .int .i64 0, .int .i64 0, .int .i64 0, .int .i64 0, .slice none 0 0, .slice none 0 0, .slice none 0 0, .int .i64 0, .int .i64 0, .slice none 0 0, .slice none 0 0] (heap_alloc_new w _) (by rw [info_mach]; simp [HL.out]) (by simp [HL.out]) (all_oneCell_toArray HO.out) ?_
  refine wpList_nil ?_
  rename_i K hK
  obtain ⟨w2, hw2⟩ : ∃ w2, w2 = (w.alloc (.cells #[.int .i64 0, .int .i64 0, .int .i64 0, .int .i64 0, .int .i64 0, .int .i64 0, .int .i64 0, .int .i64 0, .int .i64 0, .int .i64 0, .int .i64 0, .int .i64 0, .int .i64 0, .int .i64 0, .int .i64 0, .int .i64 0, .int .i64 0, .int .i64 0, .slice none 0 0, .slice none 0 0, .slice none 0 0, .int .i64 0, .int .i64 0, .slice none 0 0, .slice none 0 0] 30)).setRow w.heap.size ((mcells M (.slice Am M.m.length cm) (.slice Av M.s.length cv) (.slice Ac M.calls.length cc) (.slice Ai M.inp.length ci) (.slice Ao M.out.length co))).toArray := ⟨_, rfl⟩
  rw [← hw2]
  rw [World.setRow_alloc_new] at hw2
  have hb2 : Below w.heap.size w w2 := by rw [hw2]; exact (Below.refl _ w).alloc (Nat.le_refl _) _
  have hk2 : Blk w2 w.heap.size 30 ((mcells M (.slice Am M.m.length cm) (.slice Av M.s.length cv) (.slice Ac M.calls.length cc) (.slice Ai M.inp.length ci) (.slice Ao M.out.length co))).toArray := by rw [hw2]; exact Blk.new _ _ _
  clear hw2
  refine hK _ _ ?_
  clear hK
  have G := mc_get (M := M) (vm := .slice Am M.m.length cm) (vs := .slice Av M.s.length cv) (vc := .slice Ac M.calls.length cc) (vi := .slice Ai M.inp.length ci) (vo := .slice Ao M.out.length co) HM.out.rl
  have e18 := (HM.out.c 18 (by decide)).trans G.2.2.2.1; have e19 := (HM.out.c 19 (by decide)).trans G.2.2.2.2.1; have e20 := (HM.out.c 20 (by decide)).trans G.2.2.2.2.2.1; have e23 := (HM.out.c 23 (by decide)).trans G.2.2.2.2.2.2.2.2.1; have e24 := (HM.out.c 24 (by decide)).trans G.2.2.2.2.2.2.2.2.2.1
  clear G
  have HE18 := Lib.hid e18; have HE19 := Lib.hid e19; have HE20 := Lib.hid e20; have HE23 := Lib.hid e23; have HE24 := Lib.hid e24
  clear e18 e19 e20 e23 e24
  have E18 := (hb2.cell (p := ⟨b, off + 18, none⟩) hlt).trans HE18.out
  have HB2 := Lib.hid hb2
  have HK2 := Lib.hid hk2
  have H2 := Lib.hid (HM.out.next hb2)
  clear hb2 hk2
  simp only [Act.put]
  go_wp2_with fail
  refine (c_CloneI H2.out.m (by have := HB.out.ml; omega)).mono ?_
  rintro e w3 ⟨vm', rfl, ho3, hb3⟩
  have HB3 := Lib.hid (HB2.out.next (hb3))
  have HK3 := Lib.hid (HK2.out.next hb3)
  have HO3 := Lib.hid ho3
  have E18 := HK3.out.cell 18
  have F18 := HK3.out.frozen 18
  clear ho3 hb3
  obtain ⟨am', cm', rfl⟩ := own_form HO3.out
  have hgw : w.heap.size < w2.heap.size := HK2.out.lt
  obtain ⟨gm, gm0, gm1, gm2, hrow⟩ := Row.of_own HO3.out (intCells_length _) w.heap.size hgw HK3.out.lt
  have HROW := Lib.hid hrow
  clear hrow
  have hg3 : w.heap.size < w3.heap.size := HK3.out.lt
  simp only [List.getElem?_toArray, (mc_get (M := M) (vm := .slice Am M.m.length cm) (vs := .slice Av M.s.length cv) (vc := .slice Ac M.calls.length cc) (vi := .slice Ai M.inp.length ci) (vo := .slice Ao M.out.length co) HM.out.rl).2.2.2.1] at E18
  have E19 := HK3.out.cell 19
  have F19 := HK3.out.frozen 19
  simp only [List.getElem?_toArray, (mc_get (M := M) (vm := .slice Am M.m.length cm) (vs := .slice Av M.s.length cv) (vc := .slice Ac M.calls.length cc) (vi := .slice Ai M.inp.length ci) (vo := .slice Ao M.out.length co) HM.out.rl).2.2.2.2.1] at E19
  have A19 := (HB3.out.cell (p := ⟨b, off + 19, none⟩) hlt).trans HE19.out
  have hne : b ≠ w.heap.size := by omega
  have hms : M.s.length ≤ 16384 := HB.out.sl
  go_upto_region 6 with fail
  refine wp_nameY ?_
  intro w4 hw4
  have hI : ClInv w w3 w4 30 26 M (.slice am' M.m.length cm') (.slice Ac M.calls.length cc) (.slice Ai M.inp.length ci) (.slice Ao M.out.length co) gm M.s.length 0 := by
    have hB3 := HB3.out
    have k1 : Blk (w3.setCell ⟨w.heap.size, 18, none⟩ (.slice am' M.m.length cm')) w.heap.size 30 (mcells M (.slice am' M.m.length cm') (.slice Av M.s.length cv) (.slice Ac M.calls.length cc) (.slice Ai M.inp.length ci) (.slice Ao M.out.length co)).toArray := HK3.out.mset HM.out.rl 0 _
    have k2 : Blk ((w3.setCell ⟨w.heap.size, 18, none⟩ (.slice am' M.m.length cm')).setCell ⟨w.heap.size, 19, none⟩ (.slice (some ⟨w3.heap.size, 0, none⟩) M.s.length M.s.length)) w.heap.size 30 (mcells M (.slice am' M.m.length cm') (.slice (some ⟨w3.heap.size, 0, none⟩) M.s.length M.s.length) (.slice Ac M.calls.length cc) (.slice Ai M.inp.length ci) (.slice Ao M.out.length co)).toArray := k1.mset HM.out.rl 1 _
    refine ⟨by rw [hw4]; exact (by repeat' (first | (with_reducible assumption) | (with_reducible exact Below.refl _ _) | (with_reducible refine Below.alloc ?_ ?_ _) | (with_reducible refine Bk.drewN_ ?_ _) | (with_reducible refine Below.drew ?_) | (with_reducible refine Below.setCell ?_ ?_ _) | go_size)), by rw [hw4]; exact k2.alloc _, HROW.out.keep fun hn => ?_, by rw [hw4]; simp [World.setCell], (madeCells #[.slice none 0 0] M.s.length).toList, by simp [size_madeCells], ?_, fun k hk => by omega⟩
    · have g := gm2 hn
      rw [hw4]
      exact (Below.heap_alloc _ _ _ (by simp [World.setCell]; omega)).trans ((Below.heap_setCell _ ⟨w.heap.size, 19, none⟩ _ _ g).trans (Below.heap_setCell _ ⟨w.heap.size, 18, none⟩ _ _ g))
    · rw [hw4, Array.toArray_toList]
      exact Blk.new' (by simp [World.setCell]) _ _
  clear hw4 E18 F18 E19 F19 A19 mk0
  have HI := Lib.hid hI
  have A19 := (HI.out.b.cell (p := ⟨b, off + 19, none⟩) hlt).trans HE19.out
  clear hI
  go_wp2_with fail
  go_loopw [29] (fun v wr => ∃ j : Nat, j ≤ M.s.length ∧ v = .int .i64 j ∧ ClInv w w3 wr 30 26 M (.slice am' M.m.length cm') (.slice Ac M.calls.length cc) (.slice Ai M.inp.length ci) (.slice Ao M.out.length co) gm M.s.length j) (fun v _ => M.s.length - (intOf v).toNat)
  case atStart => exact ⟨0, Nat.zero_le _, rfl, HI.out⟩
  case round =>
    obtain ⟨j, hj, rfl, hI⟩ := hrel
    have HJ := Lib.hid hI
    clear A19 hI
    by_cases hlt' : j < M.s.length
    · obtain ⟨bs, os, rfl, hds, hcell⟩ := HRV.out.2 (by omega)
      obtain ⟨u, hu, hsl⟩ := HM.out.l.1.2 j hlt'
      have hbs : bs < w.heap.size := HM.out.d _ hds
      have cu := (HJ.out.b.cell (p := ⟨bs, os + j, none⟩) hbs).trans (hcell j u hu)
      have HSl := Lib.hid (hsl.keep (fun b o hd => HJ.out.b.cell (p := ⟨b, o, none⟩) (HM.out.d _ hd)) (D' := (· < wr.heap.size)) (fun k hk => Nat.lt_of_lt_of_le (HM.out.d k hk) HJ.out.b.size))
      have hlen' : (M.s.getD j []).length ≤ 1000000 := HB.out.st _ (getD_mem hlt')
      obtain ⟨lj, hlj⟩ : ∃ l, l = M.s.getD j [] := ⟨_, rfl⟩
      rw [← hlj] at hsl HSl hlen'
      have HLJ := Lib.hid hlj
      clear hlj
      obtain ⟨Au, cc', rfl, _⟩ := hsl
      have cg := HJ.out.k.cell 19
      simp only [List.getElem?_toArray, (mc_get (M := M) (vm := .slice am' M.m.length cm') (vs := .slice (some ⟨w3.heap.size, 0, none⟩) M.s.length M.s.length) (vc := .slice Ac M.calls.length cc) (vi := .slice Ai M.inp.length ci) (vo := .slice Ao M.out.length co) HM.out.rl).2.2.2.2.1] at cg
      have j0 : (0 : Int) ≤ (j : Int) := by omega
      have j1 : (j : Int) < (M.s.length : Int) := by omega
      have hw3r : w3.heap.size < wr.heap.size := HJ.out.l
      clear hcell hu hds
      have hgmr : gm < wr.heap.size := by omega
      go_upto_region 9 with fail
      go_region_held3 (fun w' => w'.cell? ⟨w.heap.size, 19, none⟩ = some (.slice (some ⟨w3.heap.size, 0, none⟩) M.s.length M.s.length)) (go_simp) (first | (go_at_call 35; ((with_reducible refine (c_CloneI (HSl.out.keep (D' := (· < wr.heap.size)) (fun b' o hd => cell_up hd (by repeat' (first | (with_reducible assumption) | (with_reducible exact Below.refl _ _) | (with_reducible refine Below.alloc ?_ ?_ _) | (with_reducible refine Bk.drewN_ ?_ _) | (with_reducible refine Below.drew ?_) | (with_reducible refine Below.setCell ?_ ?_ _) | go_size))) (fun _ h => h)) (by omega)).mono ?_); rintro e w5 ⟨u', rfl, ho5, hb5⟩; have hB5 : Below wr.heap.size wr w5 := Below.trans (by repeat' (first | (with_reducible assumption) | (with_reducible exact Below.refl _ _) | (with_reducible refine Below.alloc ?_ ?_ _) | (with_reducible refine Bk.drewN_ ?_ _) | (with_reducible refine Below.drew ?_) | (with_reducible refine Below.setCell ?_ ?_ _) | go_size)) (hb5.mono (by go_size)); have HJ5 := Lib.hid (HJ.out.next hB5 hgmr); obtain ⟨old, co, fo⟩ := HJ5.out.cell j hlt'; have HO5 := Lib.hid (Sl.own ho5 (B := w3.heap.size) (by go_size)); obtain ⟨a5, c5, rfl⟩ := own_form ho5; have cg5 := HJ5.out.c19 HM.out.rl; clear ho5 hb5 hB5)))
      all_goals (go_wp2_with fail; exact ⟨⟨j + 1, by omega, by go_num, HJ5.out.put hg3 gm1 _ hlt' (by rw [← HLJ.out]; exact HO5.out)⟩, by simp [intOf]; omega⟩)
    · obtain rfl : j = M.s.length := by omega
      have A20 := (HJ.out.b.cell (p := ⟨b, off + 20, none⟩) hlt).trans HE20.out
      go_wp2_with fail
      refine (c_CloneA (HM.out.next HJ.out.b).l.2.1 (by have := HB.out.cl; omega)).mono ?_
      rintro e w5 ⟨vc', rfl, ho5, hb5⟩
      have hgmr : gm < wr.heap.size := by have := HJ.out.l; omega
      have hgm5 : gm < w5.heap.size := by have := hb5.size; omega
      have HJ5 := Lib.hid (HJ.out.next hb5 hgmr)
      have HO5 := Lib.hid (Sl.own ho5 (B := w3.heap.size) HJ.out.l)
      obtain ⟨a5, c5, rfl⟩ := own_form ho5
      have E20 := HJ5.out.k.cell 20
      have F20 := HJ5.out.k.frozen 20
      simp only [List.getElem?_toArray, (mc_get (M := M) (vm := .slice am' M.m.length cm') (vs := .slice (some ⟨w3.heap.size, 0, none⟩) M.s.length M.s.length) (vc := .slice Ac M.calls.length cc) (vi := .slice Ai M.inp.length ci) (vo := .slice Ao M.out.length co) HM.out.rl).2.2.2.2.2.1] at E20
      have A23 := (HJ5.out.b.cell (p := ⟨b, off + 23, none⟩) hlt).trans HE23.out
      clear A20 ho5 hb5
      go_wp2_with fail
      refine calls_nameY ?_
      intro w6 hw6
      have HJ6 := Lib.hid (HJ5.out.top HM.out.rl hg3 gm2 2 (.slice a5 M.calls.length c5) rfl); simp only [Nat.reduceAdd] at HJ6
      have HO6 := Lib.hid (HO5.out.farset (g := w.heap.size) (o := 20) (u := .slice a5 M.calls.length c5) (by omega))
      rw [← hw6] at HJ6 HO6
      have hgm6 : gm < w6.heap.size := by rw [hw6]; simpa [World.setCell] using hgm5
      clear hw6 E20 F20 A23
      refine (c_CloneI (HM.out.next HJ6.out.b).l.2.2.1 (by have := HB.out.il; omega)).mono ?_
      rintro e w7 ⟨vi', rfl, ho7, hb7⟩
      have hgm7 : gm < w7.heap.size := by have := hb7.size; omega
      have HJ7 := Lib.hid (HJ6.out.next hb7 hgm6)
      have HO7 := Lib.hid (HO6.out.upB hb7)
      have HI7 := Lib.hid (Sl.own ho7 (B := w3.heap.size) HJ6.out.l)
      obtain ⟨a7, c7, rfl⟩ := own_form ho7
      have E23 := HJ7.out.k.cell 23
      have F23 := HJ7.out.k.frozen 23
      simp only [List.getElem?_toArray, (mc_get (M := M) (vm := .slice am' M.m.length cm') (vs := .slice (some ⟨w3.heap.size, 0, none⟩) M.s.length M.s.length) (vc := .slice a5 M.calls.length c5) (vi := .slice Ai M.inp.length ci) (vo := .slice Ao M.out.length co) HM.out.rl).2.2.2.2.2.2.2.2.1] at E23
      have A24 := (HJ7.out.b.cell (p := ⟨b, off + 24, none⟩) hlt).trans HE24.out
      clear ho7 hb7
      go_wp2_with fail
      refine calls_nameY ?_
      intro w8 hw8
      have HJ8 := Lib.hid (HJ7.out.top HM.out.rl hg3 gm2 5 (.slice a7 M.inp.length c7) rfl); simp only [Nat.reduceAdd] at HJ8
      have HO8 := Lib.hid (HO7.out.farset (g := w.heap.size) (o := 23) (u := .slice a7 M.inp.length c7) (by omega))
      have HI8 := Lib.hid (HI7.out.farset (g := w.heap.size) (o := 23) (u := .slice a7 M.inp.length c7) (by omega))
      rw [← hw8] at HJ8 HO8 HI8
      have hgm8 : gm < w8.heap.size := by rw [hw8]; simpa [World.setCell] using hgm7
      clear hw8 E23 F23 A24
      refine (c_CloneI (HM.out.next HJ8.out.b).l.2.2.2 (by have := HB.out.ol; omega)).mono ?_
      rintro e w9 ⟨vo', rfl, ho9, hb9⟩
      have HJ9 := Lib.hid (HJ8.out.next hb9 hgm8)
      have HO9 := Lib.hid (HO8.out.upB hb9)
      have HI9 := Lib.hid (HI8.out.upB hb9)
      have HU9 := Lib.hid (Sl.own ho9 (B := w3.heap.size) HJ8.out.l)
      obtain ⟨a9, c9, rfl⟩ := own_form ho9
      have E24 := HJ9.out.k.cell 24
      have F24 := HJ9.out.k.frozen 24
      simp only [List.getElem?_toArray, (mc_get (M := M) (vm := .slice am' M.m.length cm') (vs := .slice (some ⟨w3.heap.size, 0, none⟩) M.s.length M.s.length) (vc := .slice a5 M.calls.length c5) (vi := .slice a7 M.inp.length c7) (vo := .slice Ao M.out.length co) HM.out.rl).2.2.2.2.2.2.2.2.2.1] at E24
      clear ho9 hb9
      go_wp2_with fail
      go_ret
      exact (HJ9.out.top HM.out.rl hg3 gm2 6 (.slice a9 M.out.length c9) rfl).done HM.out.rl hg3 gm0 gm1 gm2 (HO9.out.farset (by omega)) (HI9.out.farset (by omega)) (HU9.out.farset (by omega))
set_option maxRecDepth 100000 in
set_option maxHeartbeats 4000000 in
theorem c_EqualL {w : World} {D D' : Nat → Prop} {b off b' off' : Nat} {M : Mach} {vm vs vc vi vo vm' vs' vc' vi' vo' : Value} {sv sv' : List Value} (h : MRd w D b off M vm vs vc vi vo sv) (h' : MRd w D' b' off' M vm' vs' vc' vi' vo' sv') (hB : MLn M) :
    Calls Tryd.prog 20 #[.pointer (some ⟨b, off, none⟩), .pointer (some ⟨b', off', none⟩)] w fun e w' => e = .returned (.bool true) ∧ Below w.heap.size w w' := by
  have HM := Lib.hid h; have HM' := Lib.hid h'; have HB := Lib.hid hB
  have hrl := h.rl
  have hlt := h.lt; have hlt' := h'.lt
  have hRR : ∀ W : World, (binOp .eql 25 (.agg (intCells M.r).toArray) (.agg (intCells M.r).toArray)).run Tryd.prog W = .ok (.bool true) W := fun W => by
    rw [eq_regs hrl hrl, decide_eq_true rfl]
  have b1 : M.m.length ≤ 16777216 := by have := HB.out.ml; omega
  have b2 : M.s.length ≤ 16777216 := by have := HB.out.sl; omega
  have b3 : ∀ l ∈ M.s, l.length ≤ 16777216 := fun l hl => by have := HB.out.st l hl; omega
  have b4 : M.calls.length ≤ 16777216 := by have := HB.out.cl; omega
  have b5 : M.inp.length ≤ 16777216 := by have := HB.out.il; omega
  have b6 : M.out.length ≤ 16777216 := by have := HB.out.ol; omega
  have B1 := Lib.hid b1; have B2 := Lib.hid b2; have B3 := Lib.hid b3; have B4 := Lib.hid b4; have B5 := Lib.hid b5; have B6 := Lib.hid b6
  clear h h' hB b1 b2 b3 b4 b5 b6 hrl
  go_enter Tryd.func20, Tryd.ntmps20
  go_wp2_with fail
  simp only [List.append_eq, List.cons_append, List.nil_append]
  refine wp_region_growF (by kernel_rfl) (by kernel_rfl) ?_; intro W hW; have hneW : Nonempty (Grw W) := ⟨⟨W, Below.refl _ _⟩⟩; have HBz := Lib.hid (fun z => Below.next (show Below w.heap.size w W by (rw [hW]; exact (by repeat' (first | (with_reducible assumption) | (with_reducible exact Below.refl _ _) | (with_reducible refine Below.alloc ?_ ?_ _) | (with_reducible refine Bk.drewN_ ?_ _) | (with_reducible refine Below.drew ?_) | (with_reducible refine Below.setCell ?_ ?_ _) | go_size)))) (grow_below W z))
  have g0 := fun z => (HM.out.next (HBz.out z)).c0; have i0 := fun z => (HM'.out.next (HBz.out z)).c0
  have g1 := fun z => (HM.out.next (HBz.out z)).c1; have i1 := fun z => (HM'.out.next (HBz.out z)).c1
  have g18 := fun z => (HM.out.next (HBz.out z)).c18; have i18 := fun z => (HM'.out.next (HBz.out z)).c18
  have g19 := fun z => (HM.out.next (HBz.out z)).c19; have i19 := fun z => (HM'.out.next (HBz.out z)).c19
  have g20 := fun z => (HM.out.next (HBz.out z)).c20; have i20 := fun z => (HM'.out.next (HBz.out z)).c20
  have g21 := fun z => (HM.out.next (HBz.out z)).c21; have i21 := fun z => (HM'.out.next (HBz.out z)).c21
  have g22 := fun z => (HM.out.next (HBz.out z)).c22; have i22 := fun z => (HM'.out.next (HBz.out z)).c22
  have g23 := fun z => (HM.out.next (HBz.out z)).c23; have i23 := fun z => (HM'.out.next (HBz.out z)).c23
  have g24 := fun z => (HM.out.next (HBz.out z)).c24; have i24 := fun z => (HM'.out.next (HBz.out z)).c24
  have gR := fun z => load_regs (HM.out.next (HBz.out z)); have iR := fun z => load_regs (HM'.out.next (HBz.out z))
  have HW := Lib.hid hW; clear hW
  repeat (first | (go_big_quiet_want; refine quiet_loadG 25 rfl rfl (gR) ?_; go_big_quiet_on; simp only [Act.put, List.setIfInBounds_toArray, List.set_cons_succ, List.set_cons_zero]) | (go_big_quiet_want; refine quiet_loadG 25 rfl rfl (iR) ?_; go_big_quiet_on; simp only [Act.put, List.setIfInBounds_toArray, List.set_cons_succ, List.set_cons_zero]) | go_big_quiet_step ((first | (go_at_call 40; with_reducible exact quiet_grow (c_EqIT (HM.out.next (HBz.out _)).m (HM'.out.next (HBz.out _)).m (HM.out.next (HBz.out _)).d (HM'.out.next (HBz.out _)).d B1.out)) | (go_at_call 41; with_reducible exact quiet_grow (c_EqFT (HM.out.next (HBz.out _)).s (HM'.out.next (HBz.out _)).s (HM.out.next (HBz.out _)).ls (HM'.out.next (HBz.out _)).ls (HM.out.next (HBz.out _)).d (HM'.out.next (HBz.out _)).d B2.out B3.out)) | (go_at_call 43; with_reducible exact quiet_grow (c_EqAT (HM.out.next (HBz.out _)).lc (HM'.out.next (HBz.out _)).lc (HM.out.next (HBz.out _)).d (HM'.out.next (HBz.out _)).d B4.out)) | (go_at_call 40; with_reducible exact quiet_grow (c_EqIT (HM.out.next (HBz.out _)).li (HM'.out.next (HBz.out _)).li (HM.out.next (HBz.out _)).d (HM'.out.next (HBz.out _)).d B5.out)) | (go_at_call 40; with_reducible exact quiet_grow (c_EqIT (HM.out.next (HBz.out _)).lo (HM'.out.next (HBz.out _)).lo (HM.out.next (HBz.out _)).d (HM'.out.next (HBz.out _)).d B6.out)))))
  clear g0 i0 g1 i1 g18 i18 g19 i19 g20 i20 g21 i21 g22 i22 g23 i23 g24 i24 gR iR
  refine wpQuiet_nil ?_; rintro _ ⟨z, rfl⟩; have hb1 := grow_below W z; have hB1 := HBz.out z; generalize grow W z = w1 at hb1 hB1 ⊢; have hW := HW.out; clear HW HBz hneW; subst hW; obtain ⟨hc1, hf1⟩ := bcell hb1; obtain ⟨hcA1, hfA1⟩ := bcell hB1; have HB1 := Lib.hid hb1; clear hb1
  go_wp2_with fail
  go_ret
  exact ⟨rfl, by repeat' (first | (with_reducible assumption) | (with_reducible exact Below.refl _ _) | (with_reducible refine Below.alloc ?_ ?_ _) | (with_reducible refine Bk.drewN_ ?_ _) | (with_reducible refine Below.drew ?_) | (with_reducible refine Below.setCell ?_ ?_ _) | go_size)⟩
set_option maxRecDepth 100000 in
set_option maxHeartbeats 4000000 in
theorem c_REqL {w : World} {D D' : Nat → Prop} {M : Mach} {vm vs vc vi vo vm' vs' vc' vi' vo' : Value} {sv sv' : List Value} (h : MLs w D M vm vs vc vi vo sv) (h' : MLs w D' M vm' vs' vc' vi' vo' sv') (hB : MLn M) :
    Calls Tryd.prog 17 #[.agg (mcells M vm vs vc vi vo).toArray, .agg (mcells M vm' vs' vc' vi' vo').toArray] w fun e w' => e = .returned (.bool true) ∧ Below w.heap.size w w' := by
  obtain ⟨Av, cv, rfl, _⟩ := h.s; obtain ⟨Ac, cc, rfl, _⟩ := h.l.2.1
  obtain ⟨Av', cv', rfl, _⟩ := h'.s; obtain ⟨Ac', cc', rfl, _⟩ := h'.l.2.1
  have HL := Lib.hid h; have HL' := Lib.hid h'; have HB := Lib.hid hB
  have hrl := h.rl
  have hRR : ∀ W : World, (binOp .neq 25 (.agg (intCells M.r).toArray) (.agg (intCells M.r).toArray)).run Tryd.prog W = .ok (.bool false) W := fun W => by
    rw [ne_regs hrl hrl]; simp
  have b1 : M.m.length ≤ 16777216 := by have := HB.out.ml; omega
  have b3 : ∀ l ∈ M.s, l.length ≤ 16777216 := fun l hl => by have := HB.out.st l hl; omega
  have b5 : M.inp.length ≤ 16777216 := by have := HB.out.il; omega
  have b6 : M.out.length ≤ 16777216 := by have := HB.out.ol; omega
  have B1 := Lib.hid b1; have B3 := Lib.hid b3; have B5 := Lib.hid b5; have B6 := Lib.hid b6
  have t1 : ((M.s.length : Int) != (M.s.length : Int)) = false := by simp
  have t2 : ((M.calls.length : Int) != (M.calls.length : Int)) = false := by simp
  clear h h' hB b1 b3 b5 b6 hrl
  go_enter Tryd.func17, Tryd.ntmps17
  go_upto_region 1 with fail
  refine wp_nameY ?_
  intro w1 hw1
  have hB_w1 : Below w.heap.size w w1 := by rw [hw1]; exact (by repeat' (first | (with_reducible assumption) | (with_reducible exact Below.refl _ _) | (with_reducible refine Below.alloc ?_ ?_ _) | (with_reducible refine Bk.drewN_ ?_ _) | (with_reducible refine Below.drew ?_) | (with_reducible refine Below.setCell ?_ ?_ _) | go_size))
  have K1 : Blk w1 w.heap.size 30 (mcells M vm (.slice Av M.s.length cv) (.slice Ac M.calls.length cc) vi vo).toArray := by rw [hw1]; exact (by repeat' (first | with_reducible assumption | (refine Blk.new' ?_ _ _; simp; done) | refine Blk.alloc ?_ _ | refine Blk.drewN ?_ _ | refine Blk.drew ?_))
  have K2 : Blk w1 (w.heap.size + 1) 30 (mcells M vm' (.slice Av' M.s.length cv') (.slice Ac' M.calls.length cc') vi' vo').toArray := by rw [hw1]; exact (by repeat' (first | with_reducible assumption | (refine Blk.new' ?_ _ _; simp; done) | refine Blk.alloc ?_ _ | refine Blk.drewN ?_ _ | refine Blk.drew ?_))
  have HM := Lib.hid ((HL.out.next hB_w1).at_ K1); have HM' := Lib.hid ((HL'.out.next hB_w1).at_ K2)
  clear hw1 K1 K2
  have g0 := HM.out.c0; have i0 := HM'.out.c0; have g1 := HM.out.c1; have i1 := HM'.out.c1; have g18 := HM.out.c18; have i18 := HM'.out.c18; have g19 := HM.out.c19; have i19 := HM'.out.c19; have g20 := HM.out.c20; have i20 := HM'.out.c20; have g21 := HM.out.c21; have i21 := HM'.out.c21; have g22 := HM.out.c22; have i22 := HM'.out.c22; have g23 := HM.out.c23; have i23 := HM'.out.c23; have g24 := HM.out.c24; have i24 := HM'.out.c24; simp only [Nat.zero_add] at g0 i0 g1 i1 g18 i18 g19 i19 g20 i20 g21 i21 g22 i22 g23 i23 g24 i24
  go_step
  simp only [List.append_eq, List.cons_append, List.nil_append]
  go_wp2_with (first | (refine wpList_loadG 25 rfl rfl rfl (load_regs HM.out) ?_; simp only [Act.put, List.setIfInBounds_toArray, List.set_cons_succ, List.set_cons_zero]) | (refine wpList_loadG 25 rfl rfl rfl (load_regs HM'.out) ?_; simp only [Act.put, List.setIfInBounds_toArray, List.set_cons_succ, List.set_cons_zero]))
  refine (c_rintsT HM.out.m HM'.out.m HM.out.d HM'.out.d B1.out).mono ?_
  rintro e w2 ⟨rfl, hb2⟩
  have hB_w2 := hB_w1.next hb2
  replace HM := Lib.hid (HM.out.next hb2); replace HM' := Lib.hid (HM'.out.next hb2)
  clear g0 i0 g1 i1 g18 i18 g19 i19 g20 i20 g21 i21 g22 i22 g23 i23 g24 i24
  clear hb2
  have g0 := HM.out.c0; have i0 := HM'.out.c0; have g1 := HM.out.c1; have i1 := HM'.out.c1; have g18 := HM.out.c18; have i18 := HM'.out.c18; have g19 := HM.out.c19; have i19 := HM'.out.c19; have g20 := HM.out.c20; have i20 := HM'.out.c20; have g21 := HM.out.c21; have i21 := HM'.out.c21; have g22 := HM.out.c22; have i22 := HM'.out.c22; have g23 := HM.out.c23; have i23 := HM'.out.c23; have g24 := HM.out.c24; have i24 := HM'.out.c24; simp only [Nat.zero_add] at g0 i0 g1 i1 g18 i18 g19 i19 g20 i20 g21 i21 g22 i22 g23 i23 g24 i24
  go_wp2_with fail
  refine (c_rintsT HM.out.li HM'.out.li HM.out.d HM'.out.d B5.out).mono ?_
  rintro e w3 ⟨rfl, hb3⟩
  have hB_w3 := hB_w2.next hb3
  replace HM := Lib.hid (HM.out.next hb3); replace HM' := Lib.hid (HM'.out.next hb3)
  clear g0 i0 g1 i1 g18 i18 g19 i19 g20 i20 g21 i21 g22 i22 g23 i23 g24 i24
  clear hb3
  have g0 := HM.out.c0; have i0 := HM'.out.c0; have g1 := HM.out.c1; have i1 := HM'.out.c1; have g18 := HM.out.c18; have i18 := HM'.out.c18; have g19 := HM.out.c19; have i19 := HM'.out.c19; have g20 := HM.out.c20; have i20 := HM'.out.c20; have g21 := HM.out.c21; have i21 := HM'.out.c21; have g22 := HM.out.c22; have i22 := HM'.out.c22; have g23 := HM.out.c23; have i23 := HM'.out.c23; have g24 := HM.out.c24; have i24 := HM'.out.c24; simp only [Nat.zero_add] at g0 i0 g1 i1 g18 i18 g19 i19 g20 i20 g21 i21 g22 i22 g23 i23 g24 i24
  go_wp2_with fail
  refine (c_rintsT HM.out.lo HM'.out.lo HM.out.d HM'.out.d B6.out).mono ?_
  rintro e w4 ⟨rfl, hb4⟩
  have hB_w4 := hB_w3.next hb4
  replace HM := Lib.hid (HM.out.next hb4); replace HM' := Lib.hid (HM'.out.next hb4)
  clear g0 i0 g1 i1 g18 i18 g19 i19 g20 i20 g21 i21 g22 i22 g23 i23 g24 i24
  clear hb4
  have g0 := HM.out.c0; have i0 := HM'.out.c0; have g1 := HM.out.c1; have i1 := HM'.out.c1; have g18 := HM.out.c18; have i18 := HM'.out.c18; have g19 := HM.out.c19; have i19 := HM'.out.c19; have g20 := HM.out.c20; have i20 := HM'.out.c20; have g21 := HM.out.c21; have i21 := HM'.out.c21; have g22 := HM.out.c22; have i22 := HM'.out.c22; have g23 := HM.out.c23; have i23 := HM'.out.c23; have g24 := HM.out.c24; have i24 := HM'.out.c24; simp only [Nat.zero_add] at g0 i0 g1 i1 g18 i18 g19 i19 g20 i20 g21 i21 g22 i22 g23 i23 g24 i24
  go_wp2_with fail
  have hms : M.s.length ≤ 16384 := HB.out.sl
  have hcs : M.calls.length ≤ 10000 := HB.out.cl
  clear g0 i0 g1 i1 g18 i18 g19 i19 g20 i20 g21 i21 g22 i22 g23 i23 g24 i24
  have HM4 := Lib.hid HM.out; have HM4' := Lib.hid HM'.out
  go_loopw [5] (fun v5 wr => ∃ j : Nat, j ≤ M.s.length ∧ v5 = .int .i64 j ∧ Below w4.heap.size w4 wr) (fun v _ => M.s.length - (intOf v).toNat)
  case atStart => exact ⟨0, Nat.zero_le _, rfl, Below.refl _ _⟩
  case round =>
    obtain ⟨j, hj, rfl, hBr⟩ := hrel
    have HR := Lib.hid (HM4.out.next hBr); have HR' := Lib.hid (HM4'.out.next hBr)
    have hB_wr := hB_w4.next hBr
    have g19 := HR.out.c19; have i19 := HR'.out.c19
    simp only [Nat.zero_add] at g19 i19
    by_cases hlt : j < M.s.length
    · obtain ⟨_, _, ev, _, _, hR⟩ := HR.out.s
      injection ev with ev _ evc
      subst ev; subst evc
      obtain ⟨bs, os, rfl, hds, hcell⟩ := hR.2 (by omega)
      obtain ⟨u, hu, hsl⟩ := HR.out.l.1.2 j hlt
      have ec := hcell j _ hu
      obtain ⟨_, _, ev, _, _, hR'⟩ := HR'.out.s
      injection ev with ev _ evc
      subst ev; subst evc
      obtain ⟨bs', os', rfl, hds', hcell'⟩ := hR'.2 (by omega)
      obtain ⟨u', hu', hsl'⟩ := HR'.out.l.1.2 j hlt
      have ec' := hcell' j _ hu'
      have hbs := HR.out.d _ hds; have hbs' := HR'.out.d _ hds'
      have hle : (M.s.getD j []).length ≤ 16777216 := B3.out _ (getD_mem hlt)
      have HLE := Lib.hid hle
      have HS1 := Lib.hid hsl; have HS2 := Lib.hid hsl'
      obtain ⟨A1, c1, rfl, _⟩ := hsl
      obtain ⟨A2, c2, rfl, _⟩ := hsl'
      have j0 : (0 : Int) ≤ (j : Int) := by omega
      have j1 : (j : Int) < (M.s.length : Int) := by omega
      clear hR hR' hcell hcell' hu hu' hds hds' hle
      generalize M.s.getD j [] = lj at *
      have EC := Lib.hid ec; have EC' := Lib.hid ec'
      clear ec ec'
      go_wp2_with fail
      clear g19 i19
      refine wp_region_grow (by kernel_rfl) (by kernel_rfl) ?_; intro W hW; have hneW : Nonempty (Grw W) := ⟨⟨W, Below.refl _ _⟩⟩; have HBz := Lib.hid (fun z => Below.next (show Below w.heap.size w W by (rw [hW]; exact (by repeat' (first | (with_reducible assumption) | (with_reducible exact Below.refl _ _) | (with_reducible refine Below.alloc ?_ ?_ _) | (with_reducible refine Bk.drewN_ ?_ _) | (with_reducible refine Below.drew ?_) | (with_reducible refine Below.setCell ?_ ?_ _) | go_size)))) (grow_below W z))
      have g19 := fun z => (HR.out.next (w' := grow W z) (by rw [← hW]; exact grow_below W z)).c19
      have i19 := fun z => (HR'.out.next (w' := grow W z) (by rw [← hW]; exact grow_below W z)).c19
      simp only [Nat.zero_add] at g19 i19
      have ez := cell_grow hW hbs EC.out
      have ez' := cell_grow hW hbs' EC'.out
      have HW := Lib.hid hW; clear hW
      repeat (go_big_quiet_step ((go_at_call 39; with_reducible exact quiet_grow (c_rintsT (HS1.out.upD HR.out.d (by rw [← HW.out]; exact grow_below _ _)) (HS2.out.upD HR'.out.d (by rw [← HW.out]; exact grow_below _ _)) (fun k hk => Nat.lt_of_lt_of_le (HR.out.d k hk) (by rw [← HW.out]; exact (grow_below _ _).size)) (fun k hk => Nat.lt_of_lt_of_le (HR'.out.d k hk) (by rw [← HW.out]; exact (grow_below _ _).size)) HLE.out))))
      clear g19 i19 ez ez'
      refine wpQuiet_nil ?_
      rintro _ ⟨z, rfl⟩
      have hb5 := grow_below W z
      generalize grow W z = w5 at hb5 ⊢
      rw [HW.out] at hb5
      clear HW HBz hneW
      go_wp2_with fail
      exact ⟨⟨j + 1, by omega, by go_num, hBr.next hb5⟩, by simp [intOf]; omega⟩
    · obtain rfl : j = M.s.length := by omega
      go_wp2_with fail
      clear g19 i19
      go_loopw [6] (fun v6 wq => ∃ q : Nat, q ≤ M.calls.length ∧ v6 = .int .i64 q ∧ Below wr.heap.size wr wq) (fun v _ => M.calls.length - (intOf v).toNat)
      case atStart => exact ⟨0, Nat.zero_le _, rfl, Below.refl _ _⟩
      case round =>
        obtain ⟨q, hq, rfl, hBq⟩ := hrel
        have HQ := Lib.hid (HR.out.next hBq); have HQ' := Lib.hid (HR'.out.next hBq)
        have hB_wq := hB_wr.next hBq
        have g20 := HQ.out.c20; have i20 := HQ'.out.c20
        simp only [Nat.zero_add] at g20 i20
        by_cases hlt : q < M.calls.length
        · obtain ⟨_, _, ev, _, _, hR⟩ := HQ.out.lc
          injection ev with ev _ evc
          subst ev; subst evc
          obtain ⟨bs, os, rfl, hds, hcell⟩ := hR.2 (by omega)
          obtain ⟨_, _, ev, _, _, hR'⟩ := HQ'.out.lc
          injection ev with ev _ evc
          subst ev; subst evc
          obtain ⟨bs', os', rfl, hds', hcell'⟩ := hR'.2 (by omega)
          obtain ⟨a0, a1⟩ := actCells_get M.calls q hlt
          have c0 := hcell _ _ a0; have c1 := hcell _ _ a1; have d0 := hcell' _ _ a0; have d1 := hcell' _ _ a1
          rw [← Nat.add_assoc] at c1 d1
          generalize M.calls.getD q (0, false) = a at *
          obtain ⟨s0, t0⟩ := a
          dsimp only at c0 c1 d0 d1
          have hneq := fun W => neq_actT W s0 t0
          have q0 : (0 : Int) ≤ (q : Int) := by omega
          have q1 : (q : Int) < (M.calls.length : Int) := by omega
          clear hR hR' hcell hcell' a0 a1 hds hds'
          go_wp2_with fail
          go_quiet (fail)
          go_wp2_with fail
          exact ⟨⟨q + 1, by omega, by go_num, by repeat' (first | (with_reducible assumption) | (with_reducible exact Below.refl _ _) | (with_reducible refine Below.alloc ?_ ?_ _) | (with_reducible refine Bk.drewN_ ?_ _) | (with_reducible refine Below.drew ?_) | (with_reducible refine Below.setCell ?_ ?_ _) | go_size)⟩, by simp [intOf]; omega⟩
        · obtain rfl : q = M.calls.length := by omega
          go_wp2_with fail
          go_ret
          exact ⟨rfl, hB_wq⟩
end Go.Proofs.YtmccbgnonmgbeaaDoor
