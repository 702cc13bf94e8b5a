/- The reference's Machine: the machine of a case. Printed by gen_egm2.py. -/
import Derived.Test.YtbijhlgdilkopaaGreatDoorEaX
import Derived.Test.YtbijhlgdilkopaaGreatDoorErX
import Derived.BigRegion
set_option linter.unusedVariables false
set_option linter.unusedSimpArgs false
set_option maxRecDepth 100000
set_option maxHeartbeats 4000000
namespace Go.Proofs.YtbijhlgdilkopaaGreatDoor
open Go.RowKit Bk
theorem info_int8E : (Tryz.prog.info? 3).map (fun i => (i.zero, i.size, i.bytes)) = some (some (.int .i64 0), 1, 8) := by kernel_rfl
theorem info_mach25E : (Tryz.prog.info? 53).map (fun i => i.size) = some 25 := by kernel_rfl
theorem made_list {n : Nat} {z : Value} : madeCells #[z] n = (List.replicate n z).toArray := by
  apply Array.ext'
  simp [madeCells]
  rw [List.eq_replicate_iff]
  refine ⟨by simp, fun b hb => ?_⟩
  obtain ⟨x, _, rfl⟩ := List.mem_map.1 hb
  simp [Nat.mod_one]
theorem raw_start {w : World} {B bm gm gs fp sb mm ss : Nat} (hb : Blk w bm 53 (mcells (mkM fp sb (List.replicate 16 0) (List.replicate mm 0) (List.replicate ss [])) (.slice (some ⟨gm, 0, none⟩) mm mm) (.slice (some ⟨gs, 0, none⟩) ss ss) (.slice none 0 0) (.slice none 0 0) (.slice none 0 0)).toArray)
    (hm : Blk w gm 3 (madeCells #[.int .i64 0] mm)) (hs : Blk w gs 46 (madeCells #[.slice none 0 0] ss)) (h1 : B ≤ bm) (h2 : B ≤ gm) (h3 : B ≤ gs) (hne : bm ≠ gm ∧ bm ≠ gs ∧ gm ≠ gs) :
    RawM w B bm gm gs 53 3 46 (mkM fp sb (List.replicate 16 0) (List.replicate mm 0) (List.replicate ss [])) (List.replicate ss (.slice none 0 0)) := by
  rw [made_list] at hm hs
  refine ⟨by simp [mkM], by simp [mkM], by simpa [mkM] using hb, by simpa [mkM, intCells] using hm, hs, ⟨by simp [mkM], fun k hk => ?_⟩, ⟨h1, h2, h3⟩, hne, rfl, rfl, rfl⟩
  have hk' : k < ss := by simpa [mkM] using hk
  refine ⟨.slice none 0 0, by simp [hk'], ?_⟩
  have : (mkM fp sb (List.replicate 16 0) (List.replicate mm 0) (List.replicate ss [])).s.getD k [] = [] := by simp [mkM, List.getElem?_replicate, hk']
  rw [this]; exact Sl.nil
theorem e_Machine {w : World} {B : Nat} (hBw : B ≤ w.heap.size) (V : Option Addr) (nv cv : Nat) (vs : List Vr) (hv : VsAt w B V vs) (hnv : vs.length = nv) (C : Option Addr) (nc cc : Nat) (cs : List (List Int)) (hc : CsAt w B C cs) (hnc : cs.length = nc) (hf : FitS vs cs) (h6 : nv ≤ 6) (fp sb : Nat) (hfp : fp ≤ 20) (hsb : sb ≤ 5) (G : Option Addr) (ng cg : Nat) (regs : List Int) (hG : IntsAt w B G regs) (hng : regs.length = ng) (E : Option Addr) (ne ce : Nat) (scr : List Int) (hE : Sl w (· < B) 1 (.slice E ne ce) ne (intCells scr)) (hne : scr.length = ne) (hne2 : ne ≤ 50) (w' : World) (hb : Below B w w') :
    Calls Tryz.prog 29 #[.slice V nv cv, .slice C nc cc, .int .i64 fp, .int .i64 sb, .slice G ng cg, .slice E ne ce] w' fun e w'' => ∃ vm vt sv, e = .returned (.agg (mcells (caseM vs cs fp sb regs scr) vm vt (.slice none 0 0) (.slice none 0 0) (.slice none 0 0)).toArray) ∧ MOwn w'' w'.heap.size (caseM vs cs fp sb regs scr) vm vt (.slice none 0 0) (.slice none 0 0) (.slice none 0 0) sv ∧ Below w'.heap.size w' w'' := by
  have HV := Lib.hid hv; have HNV := Lib.hid hnv; have HB := Lib.hid hb; have HC := Lib.hid hc; have HNC := Lib.hid hnc; have HF := Lib.hid hf; have HG := Lib.hid hG; have HNG := Lib.hid hng; have HE := Lib.hid hE; have HNE := Lib.hid hne
  have hsum := sums_le vs hf.ok
  have hsl := slotsL_length vs 0 0
  obtain ⟨sl, hsl0⟩ : ∃ sl, slotsL vs 0 0 = sl := ⟨_, rfl⟩
  obtain ⟨ct, hct⟩ : ∃ ct : Nat, cellsOf vs = (ct : Int) := ⟨(cellsOf vs).toNat, by omega⟩
  obtain ⟨st, hst⟩ : ∃ st : Nat, stksOf vs = (st : Int) := ⟨(stksOf vs).toNat, by omega⟩
  rw [hct, hst] at hsum
  have hct2 : ct ≤ 96 := by omega
  have hst2 : st ≤ 6 := by omega
  rw [hsl0] at hsl
  have HSL := Lib.hid hsl; have HSL0 := Lib.hid hsl0; have HCT := Lib.hid hct; have HST := Lib.hid hst
  have HOK : Hid (∀ v ∈ vs, v.Ok) := Lib.hid hf.ok
  obtain ⟨mm, hmm⟩ : ∃ mm, fp + ct + 80 = mm := ⟨_, rfl⟩
  obtain ⟨ss, hss⟩ : ∃ ss, 1 + sb + st = ss := ⟨_, rfl⟩
  have e1 : (fp : Int) + (ct : Int) + 80 = (mm : Int) := by omega
  have e2 : (1 : Int) + (sb : Int) + (st : Int) = (ss : Int) := by omega
  obtain ⟨i0, hi0, hz0, hs0, hb0⟩ := info_parts info_ints
  have mkS : ∀ W : World, (Instr.makeSlice 47 (.int .i64 (ss : Int)) (.int .i64 (ss : Int))).run Tryz.prog W = .ok (.slice (some ⟨W.heap.size, 0, none⟩) ss ss) (W.alloc (.cells (madeCells #[.slice none 0 0] ss) 46)) := fun W => by
    have := run_make_rowN (P := Tryz.prog) 47 46 i0 _ Tryz.underlying47 hi0 hz0 .i64 .i64 ss ss (Nat.le_refl _) (by rw [hb0]; omega) (by omega) W
    rw [hs0, Nat.mul_one] at this; exact this
  obtain ⟨i1, hi1, hz1, hsz1, hb1⟩ := info_parts info_int8E
  have mkM' : ∀ W : World, (Instr.makeSlice 46 (.int .i64 (mm : Int)) (.int .i64 (mm : Int))).run Tryz.prog W = .ok (.slice (some ⟨W.heap.size, 0, none⟩) mm mm) (W.alloc (.cells (madeCells #[.int .i64 0] mm) 3)) := fun W => by
    have := run_make_rowN (P := Tryz.prog) 46 3 i1 _ Tryz.underlying46 hi1 hz1 .i64 .i64 mm mm (Nat.le_refl _) (by rw [hb1]; omega) (by omega) W
    rw [hsz1, Nat.mul_one] at this; exact this
  have a1 : IntKind.i64.wrap ((fp : Int) + (ct : Int)) = (fp : Int) + (ct : Int) := wrap_small _ (by omega) (by omega)
  have a2 : IntKind.i64.wrap ((fp : Int) + (ct : Int) + 80) = (mm : Int) := by rw [e1]; exact wrap_small _ (by omega) (by omega)
  have a3 : IntKind.i64.wrap ((1 : Int) + (sb : Int)) = (1 : Int) + (sb : Int) := wrap_small _ (by omega) (by omega)
  have a4 : IntKind.i64.wrap ((1 : Int) + (sb : Int) + (st : Int)) = (ss : Int) := by rw [e2]; exact wrap_small _ (by omega) (by omega)
  have HI := Lib.hid hi1; have HZ := Lib.hid hz1; have HSZ := Lib.hid hsz1; have HBY := Lib.hid hb1
  have HMM := Lib.hid hmm; have HSS := Lib.hid hss
  have HA := Lib.hid (And.intro a1 (And.intro a2 (And.intro a3 a4))); have HMK := Lib.hid (And.intro mkS mkM')
  clear hv hnv hb hc hnc hf hG hng hE hne hsl hsl0 hct hst hsum hi0 hz0 hs0 hb0 hi1 hz1 hsz1 hb1 e1 e2 hmm hss a1 a2 a3 a4 mkS mkM'
  go_enter Tryz.func29, Tryz.ntmps29
  go_upto_region 1 with fail
  refine wp_nameE ?_
  intro w1 hw1
  have hb1 : Below w'.heap.size w' w1 := by rw [hw1]; exact (by go_grown)
  have K12 : Blk w1 w'.heap.size 53 #[.int .i64 0, .int .i64 0, .int .i64 0, .int .i64 0, .int .i64 0, .int .i64 0, .int .i64 0, .int .i64 0, .int .i64 0, .int .i64 0, .int .i64 0, .int .i64 0, .int .i64 0, .int .i64 0, .int .i64 0, .int .i64 0, .int .i64 0, .int .i64 0, .slice none 0 0, .slice none 0 0, .slice none 0 0, .int .i64 0, .int .i64 0, .slice none 0 0, .slice none 0 0] := by rw [hw1]; exact (by repeat' (first | assumption | exact Blk.new' (by simp) _ _ | apply Blk.alloc | apply Blk.drew))
  have HK12 := Lib.hid K12; have HB1 := Lib.hid hb1
  have z1 := K12.lt
  clear hw1 K12 hb1
  go_upto_region 2 with (go_at_call 28; ((with_reducible refine (e_Slots hBw V nv cv vs HV.out HNV.out (by omega) HOK.out w1 (HB.out.trans (HB1.out.mono (by have := HB.out.size; omega)))).mono ?_); rintro en w2 ⟨u, rfl, how, hb2⟩; rw [HSL0.out] at how; (try rw [HCT.out, HST.out])))
  have HOW := Lib.hid how
  obtain ⟨Au, cu, rfl⟩ := own_form how
  have HK12_2 := Lib.hid (HK12.out.next hb2)
  have HB2 := Lib.hid (HB1.out.next hb2)
  have z2 := hb2.size
  clear how hb2
  obtain ⟨a1, a2, a3, a4⟩ := HA.out
  obtain ⟨mkS, mkM'⟩ := HMK.out
  go_cut [16] (fun v16 wx => ∃ bm gm gs, v16 = .pointer (some ⟨bm, 0, none⟩) ∧ RawM wx w2.heap.size bm gm gs 53 3 46 (mkM fp sb (List.replicate 16 0) (List.replicate mm 0) (List.replicate ss [])) (List.replicate ss (.slice none 0 0)) ∧ Below w2.heap.size w2 wx)
  case first =>
    refine wp_region_heldL (S := fun W => Below w2.heap.size w2 W) 14 (by kernel_rfl) ((Below.refl _ _).drew) (fun hH => ?_)
    refine wpAnyL_at ?_
    intro wa hwa
    have hX : Below w2.heap.size w2 wa := by rw [hwa]; exact (Below.refl _ _).drew
    have HX0 := Lib.hid hX
    replace hH := hX
    clear hwa
    refine tkL 0 (v := ?_) rfl (by kernel_rfl) (fun _ _ _ h => h) (by rfl) ?hy hH ?_
    case hy => (intro w9_ hS9; clear hS9; go_simp; try with_reducible rfl)
    (try simp only [Bk.PU, Act.put])
    refine tkL 1 (v := ?_) rfl (by kernel_rfl) (fun _ _ _ h => h) (by rfl) ?hy hH ?_
    case hy => (intro w9_ hS9; clear hS9; go_simp; try with_reducible rfl)
    (try simp only [Bk.PU, Act.put])
    refine tkL 2 (v := ?_) rfl (by kernel_rfl) (fun _ _ _ h => h) (by rfl) ?hy hH ?_
    case hy => (intro w9_ hS9; clear hS9; go_simp; try with_reducible rfl)
    (try simp only [Bk.PU, Act.put])
    refine tkL 3 (v := ?_) rfl (by kernel_rfl) (fun _ _ _ h => h) (by rfl) ?hy hH ?_
    case hy => (intro w9_ hS9; clear hS9; go_simp; try with_reducible rfl)
    (try simp only [Bk.PU, Act.put])
    refine tkL 4 (v := ?_) rfl (by kernel_rfl) (fun _ _ _ h => h) (by rfl) ?hy hH ?_
    case hy => (intro w9_ hS9; clear hS9; go_simp; try with_reducible rfl)
    (try simp only [Bk.PU, Act.put])
    refine tkL 5 (v := ?_) rfl (by kernel_rfl) (fun _ _ _ h => h) (by rfl) ?hy hH ?_
    case hy => (intro w9_ hS9; clear hS9; go_simp; try with_reducible rfl)
    (try simp only [Bk.PU, Act.put])
    refine tkL 7 (v := ?_) rfl (by kernel_rfl) (fun _ _ _ h => h) (by rfl) ?hy hH ?_
    case hy => (intro w9_ hS9; clear hS9; go_simp; try with_reducible rfl)
    (try simp only [Bk.PU, Act.put])
    refine tkL 8 (v := ?_) rfl (by kernel_rfl) (fun _ _ _ h => h) (by rfl) ?hy hH ?_
    case hy => (intro w9_ hS9; clear hS9; go_simp; try with_reducible rfl)
    (try simp only [Bk.PU, Act.put])
    refine tkL 9 (v := ?_) rfl (by kernel_rfl) (fun _ _ _ h => h) (by rfl) ?hy hH ?_
    case hy => (intro w9_ hS9; clear hS9; go_simp; try with_reducible rfl)
    (try simp only [Bk.PU, Act.put])
    refine tkL 10 (v := ?_) rfl (by kernel_rfl) (fun _ _ _ h => h) (by rfl) ?hy hH ?_
    case hy => (intro w9_ hS9; clear hS9; go_simp; try with_reducible rfl)
    (try simp only [Bk.PU, Act.put])
    refine wpAnyL_ready (rs := [6, 11, 13]) (by kernel_rfl) (by simp) ?_
    refine AllReadyL.cons rfl (fun K hK => ?_) (AllReadyL.cons rfl (fun K hK => ?_) (AllReadyL.cons rfl (fun K hK => ?_) (AllReadyL.nil)))
    · go_simp
      replace hH : Below w2.heap.size w2 _ := hX.alloc (by have := hX.size; omega) (.cells (madeCells #[.int .i64 0] mm) 3)
      refine hK.out _ _ hH (fun _ => ?_)
      clear hK
      (try simp only [Bk.PU, Act.put])
      refine wpAnyL_at ?_
      intro wb hwn
      have hbn : Below wa.heap.size wa wb := by rw [hwn]; exact (Below.refl _ _).alloc (Nat.le_refl _) _
      have K_6 : Blk wb wa.heap.size 3 (madeCells #[.int .i64 0] mm) := by rw [hwn]; exact Blk.new _ _ _
      have z_6 : wa.heap.size < wb.heap.size := K_6.lt
      replace hX := hX.next hbn
      replace hH := hX
      clear hwn hbn
      refine wpAnyL_ready (rs := [11, 13]) (by kernel_rfl) (by simp) ?_
      refine AllReadyL.cons rfl (fun K hK => ?_) (AllReadyL.cons rfl (fun K hK => ?_) (AllReadyL.nil))
      · go_simp
        replace hH : Below w2.heap.size w2 _ := hX.alloc (by have := hX.size; omega) (.cells (madeCells #[.slice none 0 0] ss) 46)
        refine hK.out _ _ hH (fun _ => ?_)
        clear hK
        (try simp only [Bk.PU, Act.put])
        refine wpAnyL_at ?_
        intro wc hwn
        have hbn : Below wb.heap.size wb wc := by rw [hwn]; exact (Below.refl _ _).alloc (Nat.le_refl _) _
        have K_11 : Blk wc wb.heap.size 46 (madeCells #[.slice none 0 0] ss) := by rw [hwn]; exact Blk.new _ _ _
        have z_11 : wb.heap.size < wc.heap.size := K_11.lt
        replace K_6 := K_6.next hbn
        replace hX := hX.next hbn
        replace hH := hX
        clear hwn hbn
        refine tkL 12 (v := ?_) rfl (by kernel_rfl) (fun _ _ _ h => h) (by rfl) ?hy hH ?_
        case hy => (intro w9_ hS9; clear hS9; go_simp; try with_reducible rfl)
        (try simp only [Bk.PU, Act.put])
        refine wpAnyL_next (i := 13) rfl (by kernel_rfl) (fun K hK => ?_)
        go_simp
        replace hH : Below w2.heap.size w2 _ := hX.alloc (by have := hX.size; omega) (.cells #[.int .i64 0, .int .i64 0, .int .i64 0, .int .i64 0, .int .i64 0, .int .i64 0, .int .i64 0, .int .i64 0, .int .i64 0, .int .i64 0, .int .i64 0, .int .i64 0, .int .i64 0, .int .i64 0, .int .i64 0, .int .i64 0, .int .i64 0, .int .i64 0, .slice none 0 0, .slice none 0 0, .slice none 0 0, .int .i64 0, .int .i64 0, .slice none 0 0, .slice none 0 0] 53)
        refine hK.out _ _ hH (fun _ => ?_)
        clear hK
        (try simp only [Bk.PU, Act.put])
        refine wpAnyL_at ?_
        intro wd hwn
        have hbn : Below wc.heap.size wc wd := by rw [hwn]; exact (Below.refl _ _).alloc (Nat.le_refl _) _
        have K_13 : Blk wd wc.heap.size 53 #[.int .i64 0, .int .i64 0, .int .i64 0, .int .i64 0, .int .i64 0, .int .i64 0, .int .i64 0, .int .i64 0, .int .i64 0, .int .i64 0, .int .i64 0, .int .i64 0, .int .i64 0, .int .i64 0, .int .i64 0, .int .i64 0, .int .i64 0, .int .i64 0, .slice none 0 0, .slice none 0 0, .slice none 0 0, .int .i64 0, .int .i64 0, .slice none 0 0, .slice none 0 0] := by rw [hwn]; exact Blk.new _ _ _
        have z_13 : wc.heap.size < wd.heap.size := K_13.lt
        replace K_6 := K_6.next hbn
        replace K_11 := K_11.next hbn
        replace hX := hX.next hbn
        replace hH := hX
        clear hwn hbn
        refine wpAnyL_last (l := 14) rfl (by kernel_rfl) (by kernel_rfl) (fun K hK => ?_)
        rw [if_pos (by rfl)]
        refine wp_store_row 53 _ _ rfl wc.heap.size _ rfl rfl 53 #[.int .i64 0, .int .i64 0, .int .i64 0, .int .i64 0, .int .i64 0, .int .i64 0, .int .i64 0, .int .i64 0, .int .i64 0, .int .i64 0, .int .i64 0, .int .i64 0, .int .i64 0, .int .i64 0, .int .i64 0, .int .i64 0, .int .i64 0, .int .i64 0, .slice none 0 0, .slice none 0 0, .slice none 0 0, .int .i64 0, .int .i64 0, .slice none 0 0, .slice none 0 0] K_13 (by rw [info_mach25E]; rfl) rfl (by simp [Value.oneCell']) ?_
        refine hK.out _ _ ?_
        clear hK
        (try simp only [Bk.PU, Act.put])
        generalize hwz : World.setRow _ _ _ = wz
        have KB : Blk wz wc.heap.size 53 (mcells (mkM fp sb (List.replicate 16 0) (List.replicate mm 0) (List.replicate ss [])) (.slice (some ⟨wa.heap.size, 0, none⟩) mm mm) (.slice (some ⟨wb.heap.size, 0, none⟩) ss ss) (.slice none 0 0) (.slice none 0 0) (.slice none 0 0)).toArray := by rw [← hwz]; exact setRow_heap _ _ _ _ _ _ K_13
        have FZ : Fr (· = wc.heap.size) wd wz := by rw [← hwz]; exact Fr.setRowE _ _ _
        have zb := hX.size
        have hsz : w2.heap.size ≤ wa.heap.size := by have := HX0.out.size; omega
        have BZ : Below w2.heap.size w2 wz := hX.trans (FZ.below (by omega) (fun k hk => by omega))
        have HR := raw_start (B := w2.heap.size) (fp := fp) (sb := sb) KB (FZ.blk K_6 (by omega)) (FZ.blk K_11 (by omega)) (by omega) (by omega) (by omega) ⟨by omega, by omega, by omega⟩
        clear hwz KB FZ K_6 K_11 K_13 hX hH
        go_wp2_with fail
        go_meet
        exact ⟨_, _, _, rfl, HR, BZ⟩
      · go_simp
        replace hH : Below w2.heap.size w2 _ := hX.alloc (by have := hX.size; omega) (.cells #[.int .i64 0, .int .i64 0, .int .i64 0, .int .i64 0, .int .i64 0, .int .i64 0, .int .i64 0, .int .i64 0, .int .i64 0, .int .i64 0, .int .i64 0, .int .i64 0, .int .i64 0, .int .i64 0, .int .i64 0, .int .i64 0, .int .i64 0, .int .i64 0, .slice none 0 0, .slice none 0 0, .slice none 0 0, .int .i64 0, .int .i64 0, .slice none 0 0, .slice none 0 0] 53)
        refine hK.out _ _ hH (fun _ => ?_)
        clear hK
        (try simp only [Bk.PU, Act.put])
        refine wpAnyL_at ?_
        intro wc hwn
        have hbn : Below wb.heap.size wb wc := by rw [hwn]; exact (Below.refl _ _).alloc (Nat.le_refl _) _
        have K_13 : Blk wc wb.heap.size 53 #[.int .i64 0, .int .i64 0, .int .i64 0, .int .i64 0, .int .i64 0, .int .i64 0, .int .i64 0, .int .i64 0, .int .i64 0, .int .i64 0, .int .i64 0, .int .i64 0, .int .i64 0, .int .i64 0, .int .i64 0, .int .i64 0, .int .i64 0, .int .i64 0, .slice none 0 0, .slice none 0 0, .slice none 0 0, .int .i64 0, .int .i64 0, .slice none 0 0, .slice none 0 0] := by rw [hwn]; exact Blk.new _ _ _
        have z_13 : wb.heap.size < wc.heap.size := K_13.lt
        replace K_6 := K_6.next hbn
        replace hX := hX.next hbn
        replace hH := hX
        clear hwn hbn
        refine wpAnyL_next (i := 11) rfl (by kernel_rfl) (fun K hK => ?_)
        go_simp
        replace hH : Below w2.heap.size w2 _ := hX.alloc (by have := hX.size; omega) (.cells (madeCells #[.slice none 0 0] ss) 46)
        refine hK.out _ _ hH (fun _ => ?_)
        clear hK
        (try simp only [Bk.PU, Act.put])
        refine wpAnyL_at ?_
        intro wd hwn
        have hbn : Below wc.heap.size wc wd := by rw [hwn]; exact (Below.refl _ _).alloc (Nat.le_refl _) _
        have K_11 : Blk wd wc.heap.size 46 (madeCells #[.slice none 0 0] ss) := by rw [hwn]; exact Blk.new _ _ _
        have z_11 : wc.heap.size < wd.heap.size := K_11.lt
        replace K_6 := K_6.next hbn
        replace K_13 := K_13.next hbn
        replace hX := hX.next hbn
        replace hH := hX
        clear hwn hbn
        refine tkL 12 (v := ?_) rfl (by kernel_rfl) (fun _ _ _ h => h) (by rfl) ?hy hH ?_
        case hy => (intro w9_ hS9; clear hS9; go_simp; try with_reducible rfl)
        (try simp only [Bk.PU, Act.put])
        refine wpAnyL_last (l := 14) rfl (by kernel_rfl) (by kernel_rfl) (fun K hK => ?_)
        rw [if_pos (by rfl)]
        refine wp_store_row 53 _ _ rfl wb.heap.size _ rfl rfl 53 #[.int .i64 0, .int .i64 0, .int .i64 0, .int .i64 0, .int .i64 0, .int .i64 0, .int .i64 0, .int .i64 0, .int .i64 0, .int .i64 0, .int .i64 0, .int .i64 0, .int .i64 0, .int .i64 0, .int .i64 0, .int .i64 0, .int .i64 0, .int .i64 0, .slice none 0 0, .slice none 0 0, .slice none 0 0, .int .i64 0, .int .i64 0, .slice none 0 0, .slice none 0 0] K_13 (by rw [info_mach25E]; rfl) rfl (by simp [Value.oneCell']) ?_
        refine hK.out _ _ ?_
        clear hK
        (try simp only [Bk.PU, Act.put])
        generalize hwz : World.setRow _ _ _ = wz
        have KB : Blk wz wb.heap.size 53 (mcells (mkM fp sb (List.replicate 16 0) (List.replicate mm 0) (List.replicate ss [])) (.slice (some ⟨wa.heap.size, 0, none⟩) mm mm) (.slice (some ⟨wc.heap.size, 0, none⟩) ss ss) (.slice none 0 0) (.slice none 0 0) (.slice none 0 0)).toArray := by rw [← hwz]; exact setRow_heap _ _ _ _ _ _ K_13
        have FZ : Fr (· = wb.heap.size) wd wz := by rw [← hwz]; exact Fr.setRowE _ _ _
        have zb := hX.size
        have hsz : w2.heap.size ≤ wa.heap.size := by have := HX0.out.size; omega
        have BZ : Below w2.heap.size w2 wz := hX.trans (FZ.below (by omega) (fun k hk => by omega))
        have HR := raw_start (B := w2.heap.size) (fp := fp) (sb := sb) KB (FZ.blk K_6 (by omega)) (FZ.blk K_11 (by omega)) (by omega) (by omega) (by omega) ⟨by omega, by omega, by omega⟩
        clear hwz KB FZ K_6 K_11 K_13 hX hH
        go_wp2_with fail
        go_meet
        exact ⟨_, _, _, rfl, HR, BZ⟩
    · go_simp
      replace hH : Below w2.heap.size w2 _ := hX.alloc (by have := hX.size; omega) (.cells (madeCells #[.slice none 0 0] ss) 46)
      refine hK.out _ _ hH (fun _ => ?_)
      clear hK
      (try simp only [Bk.PU, Act.put])
      refine wpAnyL_at ?_
      intro wb hwn
      have hbn : Below wa.heap.size wa wb := by rw [hwn]; exact (Below.refl _ _).alloc (Nat.le_refl _) _
      have K_11 : Blk wb wa.heap.size 46 (madeCells #[.slice none 0 0] ss) := by rw [hwn]; exact Blk.new _ _ _
      have z_11 : wa.heap.size < wb.heap.size := K_11.lt
      replace hX := hX.next hbn
      replace hH := hX
      clear hwn hbn
      refine wpAnyL_ready (rs := [6, 13]) (by kernel_rfl) (by simp) ?_
      refine AllReadyL.cons rfl (fun K hK => ?_) (AllReadyL.cons rfl (fun K hK => ?_) (AllReadyL.nil))
      · go_simp
        replace hH : Below w2.heap.size w2 _ := hX.alloc (by have := hX.size; omega) (.cells (madeCells #[.int .i64 0] mm) 3)
        refine hK.out _ _ hH (fun _ => ?_)
        clear hK
        (try simp only [Bk.PU, Act.put])
        refine wpAnyL_at ?_
        intro wc hwn
        have hbn : Below wb.heap.size wb wc := by rw [hwn]; exact (Below.refl _ _).alloc (Nat.le_refl _) _
        have K_6 : Blk wc wb.heap.size 3 (madeCells #[.int .i64 0] mm) := by rw [hwn]; exact Blk.new _ _ _
        have z_6 : wb.heap.size < wc.heap.size := K_6.lt
        replace K_11 := K_11.next hbn
        replace hX := hX.next hbn
        replace hH := hX
        clear hwn hbn
        refine tkL 12 (v := ?_) rfl (by kernel_rfl) (fun _ _ _ h => h) (by rfl) ?hy hH ?_
        case hy => (intro w9_ hS9; clear hS9; go_simp; try with_reducible rfl)
        (try simp only [Bk.PU, Act.put])
        refine wpAnyL_next (i := 13) rfl (by kernel_rfl) (fun K hK => ?_)
        go_simp
        replace hH : Below w2.heap.size w2 _ := hX.alloc (by have := hX.size; omega) (.cells #[.int .i64 0, .int .i64 0, .int .i64 0, .int .i64 0, .int .i64 0, .int .i64 0, .int .i64 0, .int .i64 0, .int .i64 0, .int .i64 0, .int .i64 0, .int .i64 0, .int .i64 0, .int .i64 0, .int .i64 0, .int .i64 0, .int .i64 0, .int .i64 0, .slice none 0 0, .slice none 0 0, .slice none 0 0, .int .i64 0, .int .i64 0, .slice none 0 0, .slice none 0 0] 53)
        refine hK.out _ _ hH (fun _ => ?_)
        clear hK
        (try simp only [Bk.PU, Act.put])
        refine wpAnyL_at ?_
        intro wd hwn
        have hbn : Below wc.heap.size wc wd := by rw [hwn]; exact (Below.refl _ _).alloc (Nat.le_refl _) _
        have K_13 : Blk wd wc.heap.size 53 #[.int .i64 0, .int .i64 0, .int .i64 0, .int .i64 0, .int .i64 0, .int .i64 0, .int .i64 0, .int .i64 0, .int .i64 0, .int .i64 0, .int .i64 0, .int .i64 0, .int .i64 0, .int .i64 0, .int .i64 0, .int .i64 0, .int .i64 0, .int .i64 0, .slice none 0 0, .slice none 0 0, .slice none 0 0, .int .i64 0, .int .i64 0, .slice none 0 0, .slice none 0 0] := by rw [hwn]; exact Blk.new _ _ _
        have z_13 : wc.heap.size < wd.heap.size := K_13.lt
        replace K_11 := K_11.next hbn
        replace K_6 := K_6.next hbn
        replace hX := hX.next hbn
        replace hH := hX
        clear hwn hbn
        refine wpAnyL_last (l := 14) rfl (by kernel_rfl) (by kernel_rfl) (fun K hK => ?_)
        rw [if_pos (by rfl)]
        refine wp_store_row 53 _ _ rfl wc.heap.size _ rfl rfl 53 #[.int .i64 0, .int .i64 0, .int .i64 0, .int .i64 0, .int .i64 0, .int .i64 0, .int .i64 0, .int .i64 0, .int .i64 0, .int .i64 0, .int .i64 0, .int .i64 0, .int .i64 0, .int .i64 0, .int .i64 0, .int .i64 0, .int .i64 0, .int .i64 0, .slice none 0 0, .slice none 0 0, .slice none 0 0, .int .i64 0, .int .i64 0, .slice none 0 0, .slice none 0 0] K_13 (by rw [info_mach25E]; rfl) rfl (by simp [Value.oneCell']) ?_
        refine hK.out _ _ ?_
        clear hK
        (try simp only [Bk.PU, Act.put])
        generalize hwz : World.setRow _ _ _ = wz
        have KB : Blk wz wc.heap.size 53 (mcells (mkM fp sb (List.replicate 16 0) (List.replicate mm 0) (List.replicate ss [])) (.slice (some ⟨wb.heap.size, 0, none⟩) mm mm) (.slice (some ⟨wa.heap.size, 0, none⟩) ss ss) (.slice none 0 0) (.slice none 0 0) (.slice none 0 0)).toArray := by rw [← hwz]; exact setRow_heap _ _ _ _ _ _ K_13
        have FZ : Fr (· = wc.heap.size) wd wz := by rw [← hwz]; exact Fr.setRowE _ _ _
        have zb := hX.size
        have hsz : w2.heap.size ≤ wa.heap.size := by have := HX0.out.size; omega
        have BZ : Below w2.heap.size w2 wz := hX.trans (FZ.below (by omega) (fun k hk => by omega))
        have HR := raw_start (B := w2.heap.size) (fp := fp) (sb := sb) KB (FZ.blk K_6 (by omega)) (FZ.blk K_11 (by omega)) (by omega) (by omega) (by omega) ⟨by omega, by omega, by omega⟩
        clear hwz KB FZ K_6 K_11 K_13 hX hH
        go_wp2_with fail
        go_meet
        exact ⟨_, _, _, rfl, HR, BZ⟩
      · go_simp
        replace hH : Below w2.heap.size w2 _ := hX.alloc (by have := hX.size; omega) (.cells #[.int .i64 0, .int .i64 0, .int .i64 0, .int .i64 0, .int .i64 0, .int .i64 0, .int .i64 0, .int .i64 0, .int .i64 0, .int .i64 0, .int .i64 0, .int .i64 0, .int .i64 0, .int .i64 0, .int .i64 0, .int .i64 0, .int .i64 0, .int .i64 0, .slice none 0 0, .slice none 0 0, .slice none 0 0, .int .i64 0, .int .i64 0, .slice none 0 0, .slice none 0 0] 53)
        refine hK.out _ _ hH (fun _ => ?_)
        clear hK
        (try simp only [Bk.PU, Act.put])
        refine wpAnyL_at ?_
        intro wc hwn
        have hbn : Below wb.heap.size wb wc := by rw [hwn]; exact (Below.refl _ _).alloc (Nat.le_refl _) _
        have K_13 : Blk wc wb.heap.size 53 #[.int .i64 0, .int .i64 0, .int .i64 0, .int .i64 0, .int .i64 0, .int .i64 0, .int .i64 0, .int .i64 0, .int .i64 0, .int .i64 0, .int .i64 0, .int .i64 0, .int .i64 0, .int .i64 0, .int .i64 0, .int .i64 0, .int .i64 0, .int .i64 0, .slice none 0 0, .slice none 0 0, .slice none 0 0, .int .i64 0, .int .i64 0, .slice none 0 0, .slice none 0 0] := by rw [hwn]; exact Blk.new _ _ _
        have z_13 : wb.heap.size < wc.heap.size := K_13.lt
        replace K_11 := K_11.next hbn
        replace hX := hX.next hbn
        replace hH := hX
        clear hwn hbn
        refine wpAnyL_next (i := 6) rfl (by kernel_rfl) (fun K hK => ?_)
        go_simp
        replace hH : Below w2.heap.size w2 _ := hX.alloc (by have := hX.size; omega) (.cells (madeCells #[.int .i64 0] mm) 3)
        refine hK.out _ _ hH (fun _ => ?_)
        clear hK
        (try simp only [Bk.PU, Act.put])
        refine wpAnyL_at ?_
        intro wd hwn
        have hbn : Below wc.heap.size wc wd := by rw [hwn]; exact (Below.refl _ _).alloc (Nat.le_refl _) _
        have K_6 : Blk wd wc.heap.size 3 (madeCells #[.int .i64 0] mm) := by rw [hwn]; exact Blk.new _ _ _
        have z_6 : wc.heap.size < wd.heap.size := K_6.lt
        replace K_11 := K_11.next hbn
        replace K_13 := K_13.next hbn
        replace hX := hX.next hbn
        replace hH := hX
        clear hwn hbn
        refine tkL 12 (v := ?_) rfl (by kernel_rfl) (fun _ _ _ h => h) (by rfl) ?hy hH ?_
        case hy => (intro w9_ hS9; clear hS9; go_simp; try with_reducible rfl)
        (try simp only [Bk.PU, Act.put])
        refine wpAnyL_last (l := 14) rfl (by kernel_rfl) (by kernel_rfl) (fun K hK => ?_)
        rw [if_pos (by rfl)]
        refine wp_store_row 53 _ _ rfl wb.heap.size _ rfl rfl 53 #[.int .i64 0, .int .i64 0, .int .i64 0, .int .i64 0, .int .i64 0, .int .i64 0, .int .i64 0, .int .i64 0, .int .i64 0, .int .i64 0, .int .i64 0, .int .i64 0, .int .i64 0, .int .i64 0, .int .i64 0, .int .i64 0, .int .i64 0, .int .i64 0, .slice none 0 0, .slice none 0 0, .slice none 0 0, .int .i64 0, .int .i64 0, .slice none 0 0, .slice none 0 0] K_13 (by rw [info_mach25E]; rfl) rfl (by simp [Value.oneCell']) ?_
        refine hK.out _ _ ?_
        clear hK
        (try simp only [Bk.PU, Act.put])
        generalize hwz : World.setRow _ _ _ = wz
        have KB : Blk wz wb.heap.size 53 (mcells (mkM fp sb (List.replicate 16 0) (List.replicate mm 0) (List.replicate ss [])) (.slice (some ⟨wc.heap.size, 0, none⟩) mm mm) (.slice (some ⟨wa.heap.size, 0, none⟩) ss ss) (.slice none 0 0) (.slice none 0 0) (.slice none 0 0)).toArray := by rw [← hwz]; exact setRow_heap _ _ _ _ _ _ K_13
        have FZ : Fr (· = wb.heap.size) wd wz := by rw [← hwz]; exact Fr.setRowE _ _ _
        have zb := hX.size
        have hsz : w2.heap.size ≤ wa.heap.size := by have := HX0.out.size; omega
        have BZ : Below w2.heap.size w2 wz := hX.trans (FZ.below (by omega) (fun k hk => by omega))
        have HR := raw_start (B := w2.heap.size) (fp := fp) (sb := sb) KB (FZ.blk K_6 (by omega)) (FZ.blk K_11 (by omega)) (by omega) (by omega) (by omega) ⟨by omega, by omega, by omega⟩
        clear hwz KB FZ K_6 K_11 K_13 hX hH
        go_wp2_with fail
        go_meet
        exact ⟨_, _, _, rfl, HR, BZ⟩
    · go_simp
      replace hH : Below w2.heap.size w2 _ := hX.alloc (by have := hX.size; omega) (.cells #[.int .i64 0, .int .i64 0, .int .i64 0, .int .i64 0, .int .i64 0, .int .i64 0, .int .i64 0, .int .i64 0, .int .i64 0, .int .i64 0, .int .i64 0, .int .i64 0, .int .i64 0, .int .i64 0, .int .i64 0, .int .i64 0, .int .i64 0, .int .i64 0, .slice none 0 0, .slice none 0 0, .slice none 0 0, .int .i64 0, .int .i64 0, .slice none 0 0, .slice none 0 0] 53)
      refine hK.out _ _ hH (fun _ => ?_)
      clear hK
      (try simp only [Bk.PU, Act.put])
      refine wpAnyL_at ?_
      intro wb hwn
      have hbn : Below wa.heap.size wa wb := by rw [hwn]; exact (Below.refl _ _).alloc (Nat.le_refl _) _
      have K_13 : Blk wb wa.heap.size 53 #[.int .i64 0, .int .i64 0, .int .i64 0, .int .i64 0, .int .i64 0, .int .i64 0, .int .i64 0, .int .i64 0, .int .i64 0, .int .i64 0, .int .i64 0, .int .i64 0, .int .i64 0, .int .i64 0, .int .i64 0, .int .i64 0, .int .i64 0, .int .i64 0, .slice none 0 0, .slice none 0 0, .slice none 0 0, .int .i64 0, .int .i64 0, .slice none 0 0, .slice none 0 0] := by rw [hwn]; exact Blk.new _ _ _
      have z_13 : wa.heap.size < wb.heap.size := K_13.lt
      replace hX := hX.next hbn
      replace hH := hX
      clear hwn hbn
      refine wpAnyL_ready (rs := [6, 11]) (by kernel_rfl) (by simp) ?_
      refine AllReadyL.cons rfl (fun K hK => ?_) (AllReadyL.cons rfl (fun K hK => ?_) (AllReadyL.nil))
      · go_simp
        replace hH : Below w2.heap.size w2 _ := hX.alloc (by have := hX.size; omega) (.cells (madeCells #[.int .i64 0] mm) 3)
        refine hK.out _ _ hH (fun _ => ?_)
        clear hK
        (try simp only [Bk.PU, Act.put])
        refine wpAnyL_at ?_
        intro wc hwn
        have hbn : Below wb.heap.size wb wc := by rw [hwn]; exact (Below.refl _ _).alloc (Nat.le_refl _) _
        have K_6 : Blk wc wb.heap.size 3 (madeCells #[.int .i64 0] mm) := by rw [hwn]; exact Blk.new _ _ _
        have z_6 : wb.heap.size < wc.heap.size := K_6.lt
        replace K_13 := K_13.next hbn
        replace hX := hX.next hbn
        replace hH := hX
        clear hwn hbn
        refine wpAnyL_next (i := 11) rfl (by kernel_rfl) (fun K hK => ?_)
        go_simp
        replace hH : Below w2.heap.size w2 _ := hX.alloc (by have := hX.size; omega) (.cells (madeCells #[.slice none 0 0] ss) 46)
        refine hK.out _ _ hH (fun _ => ?_)
        clear hK
        (try simp only [Bk.PU, Act.put])
        refine wpAnyL_at ?_
        intro wd hwn
        have hbn : Below wc.heap.size wc wd := by rw [hwn]; exact (Below.refl _ _).alloc (Nat.le_refl _) _
        have K_11 : Blk wd wc.heap.size 46 (madeCells #[.slice none 0 0] ss) := by rw [hwn]; exact Blk.new _ _ _
        have z_11 : wc.heap.size < wd.heap.size := K_11.lt
        replace K_13 := K_13.next hbn
        replace K_6 := K_6.next hbn
        replace hX := hX.next hbn
        replace hH := hX
        clear hwn hbn
        refine tkL 12 (v := ?_) rfl (by kernel_rfl) (fun _ _ _ h => h) (by rfl) ?hy hH ?_
        case hy => (intro w9_ hS9; clear hS9; go_simp; try with_reducible rfl)
        (try simp only [Bk.PU, Act.put])
        refine wpAnyL_last (l := 14) rfl (by kernel_rfl) (by kernel_rfl) (fun K hK => ?_)
        rw [if_pos (by rfl)]
        refine wp_store_row 53 _ _ rfl wa.heap.size _ rfl rfl 53 #[.int .i64 0, .int .i64 0, .int .i64 0, .int .i64 0, .int .i64 0, .int .i64 0, .int .i64 0, .int .i64 0, .int .i64 0, .int .i64 0, .int .i64 0, .int .i64 0, .int .i64 0, .int .i64 0, .int .i64 0, .int .i64 0, .int .i64 0, .int .i64 0, .slice none 0 0, .slice none 0 0, .slice none 0 0, .int .i64 0, .int .i64 0, .slice none 0 0, .slice none 0 0] K_13 (by rw [info_mach25E]; rfl) rfl (by simp [Value.oneCell']) ?_
        refine hK.out _ _ ?_
        clear hK
        (try simp only [Bk.PU, Act.put])
        generalize hwz : World.setRow _ _ _ = wz
        have KB : Blk wz wa.heap.size 53 (mcells (mkM fp sb (List.replicate 16 0) (List.replicate mm 0) (List.replicate ss [])) (.slice (some ⟨wb.heap.size, 0, none⟩) mm mm) (.slice (some ⟨wc.heap.size, 0, none⟩) ss ss) (.slice none 0 0) (.slice none 0 0) (.slice none 0 0)).toArray := by rw [← hwz]; exact setRow_heap _ _ _ _ _ _ K_13
        have FZ : Fr (· = wa.heap.size) wd wz := by rw [← hwz]; exact Fr.setRowE _ _ _
        have zb := hX.size
        have hsz : w2.heap.size ≤ wa.heap.size := by have := HX0.out.size; omega
        have BZ : Below w2.heap.size w2 wz := hX.trans (FZ.below (by omega) (fun k hk => by omega))
        have HR := raw_start (B := w2.heap.size) (fp := fp) (sb := sb) KB (FZ.blk K_6 (by omega)) (FZ.blk K_11 (by omega)) (by omega) (by omega) (by omega) ⟨by omega, by omega, by omega⟩
        clear hwz KB FZ K_6 K_11 K_13 hX hH
        go_wp2_with fail
        go_meet
        exact ⟨_, _, _, rfl, HR, BZ⟩
      · go_simp
        replace hH : Below w2.heap.size w2 _ := hX.alloc (by have := hX.size; omega) (.cells (madeCells #[.slice none 0 0] ss) 46)
        refine hK.out _ _ hH (fun _ => ?_)
        clear hK
        (try simp only [Bk.PU, Act.put])
        refine wpAnyL_at ?_
        intro wc hwn
        have hbn : Below wb.heap.size wb wc := by rw [hwn]; exact (Below.refl _ _).alloc (Nat.le_refl _) _
        have K_11 : Blk wc wb.heap.size 46 (madeCells #[.slice none 0 0] ss) := by rw [hwn]; exact Blk.new _ _ _
        have z_11 : wb.heap.size < wc.heap.size := K_11.lt
        replace K_13 := K_13.next hbn
        replace hX := hX.next hbn
        replace hH := hX
        clear hwn hbn
        refine wpAnyL_next (i := 6) rfl (by kernel_rfl) (fun K hK => ?_)
        go_simp
        replace hH : Below w2.heap.size w2 _ := hX.alloc (by have := hX.size; omega) (.cells (madeCells #[.int .i64 0] mm) 3)
        refine hK.out _ _ hH (fun _ => ?_)
        clear hK
        (try simp only [Bk.PU, Act.put])
        refine wpAnyL_at ?_
        intro wd hwn
        have hbn : Below wc.heap.size wc wd := by rw [hwn]; exact (Below.refl _ _).alloc (Nat.le_refl _) _
        have K_6 : Blk wd wc.heap.size 3 (madeCells #[.int .i64 0] mm) := by rw [hwn]; exact Blk.new _ _ _
        have z_6 : wc.heap.size < wd.heap.size := K_6.lt
        replace K_13 := K_13.next hbn
        replace K_11 := K_11.next hbn
        replace hX := hX.next hbn
        replace hH := hX
        clear hwn hbn
        refine tkL 12 (v := ?_) rfl (by kernel_rfl) (fun _ _ _ h => h) (by rfl) ?hy hH ?_
        case hy => (intro w9_ hS9; clear hS9; go_simp; try with_reducible rfl)
        (try simp only [Bk.PU, Act.put])
        refine wpAnyL_last (l := 14) rfl (by kernel_rfl) (by kernel_rfl) (fun K hK => ?_)
        rw [if_pos (by rfl)]
        refine wp_store_row 53 _ _ rfl wa.heap.size _ rfl rfl 53 #[.int .i64 0, .int .i64 0, .int .i64 0, .int .i64 0, .int .i64 0, .int .i64 0, .int .i64 0, .int .i64 0, .int .i64 0, .int .i64 0, .int .i64 0, .int .i64 0, .int .i64 0, .int .i64 0, .int .i64 0, .int .i64 0, .int .i64 0, .int .i64 0, .slice none 0 0, .slice none 0 0, .slice none 0 0, .int .i64 0, .int .i64 0, .slice none 0 0, .slice none 0 0] K_13 (by rw [info_mach25E]; rfl) rfl (by simp [Value.oneCell']) ?_
        refine hK.out _ _ ?_
        clear hK
        (try simp only [Bk.PU, Act.put])
        generalize hwz : World.setRow _ _ _ = wz
        have KB : Blk wz wa.heap.size 53 (mcells (mkM fp sb (List.replicate 16 0) (List.replicate mm 0) (List.replicate ss [])) (.slice (some ⟨wc.heap.size, 0, none⟩) mm mm) (.slice (some ⟨wb.heap.size, 0, none⟩) ss ss) (.slice none 0 0) (.slice none 0 0) (.slice none 0 0)).toArray := by rw [← hwz]; exact setRow_heap _ _ _ _ _ _ K_13
        have FZ : Fr (· = wa.heap.size) wd wz := by rw [← hwz]; exact Fr.setRowE _ _ _
        have zb := hX.size
        have hsz : w2.heap.size ≤ wa.heap.size := by have := HX0.out.size; omega
        have BZ : Below w2.heap.size w2 wz := hX.trans (FZ.below (by omega) (fun k hk => by omega))
        have HR := raw_start (B := w2.heap.size) (fp := fp) (sb := sb) KB (FZ.blk K_6 (by omega)) (FZ.blk K_11 (by omega)) (by omega) (by omega) (by omega) ⟨by omega, by omega, by omega⟩
        clear hwz KB FZ K_6 K_11 K_13 hX hH
        go_wp2_with fail
        go_meet
        exact ⟨_, _, _, rfl, HR, BZ⟩
  case rest =>
    obtain ⟨bm, gm, gs, rfl, hraw, hbx⟩ := hcut
    generalize wc = w3 at *
    have HRAW := Lib.hid hraw; have HBX := Lib.hid hbx
    have HBW := Lib.hid (HB.out.trans (HB2.out.mono (by have := HB.out.size; omega)))
    have zB : B ≤ w2.heap.size := by have := HBW.out.size; omega
    have HK12_3 := Lib.hid (HK12_2.out.next hbx)
    have HRS0 : Hid (regsTo regs 0 = List.replicate 16 0) := Lib.hid (regsTo_zero regs)
    have zx := hbx.size
    clear hraw hbx HK12 mkS mkM' HMK HA a1 a2 a3 a4
    go_upto_region 4 with fail
    go_loopw [17] (fun v17 wr => ∃ i : Nat, i ≤ ng ∧ i ≤ 16 ∧ v17 = .int .i64 i ∧ RawM wr w2.heap.size bm gm gs 53 3 46 (mkM fp sb (regsTo regs i) (List.replicate mm 0) (List.replicate ss [])) (List.replicate ss (.slice none 0 0)) ∧ Below w2.heap.size w2 wr) (fun v _ => 16 - (intOf v).toNat)
    case atStart => exact ⟨0, Nat.zero_le _, by omega, rfl, by rw [HRS0.out]; exact HRAW.out, HBX.out⟩
    case round =>
      obtain ⟨i, hi1, hi2, rfl, hraw, hbr⟩ := hrel
      have HR1 := Lib.hid hraw; have HBR := Lib.hid hbr
      clear HRAW HRS0
      have i0 : (0 : Int) ≤ (i : Int) := by omega
      go_upto_region 4 with fail
      go_cut [49] (fun v49 wx => v49 = .bool (decide (i < ng) && decide (i < 16)) ∧ wr = wx)
      case first =>
        clear hraw hbr
        by_cases h1 : i < ng
        · by_cases h2 : i < 16
          · have k1 : (i : Int) < (ng : Int) := by omega
            have k2 : (i : Int) < 16 := by omega
            go_wp2_with fail
            go_meet
            exact ⟨by simp [h1, h2], rfl⟩
          · have k1 : (i : Int) < (ng : Int) := by omega
            have k2 : ¬ (i : Int) < 16 := by omega
            go_wp2_with fail
            go_meet
            exact ⟨by simp [h1, h2], rfl⟩
        · have k1 : ¬ (i : Int) < (ng : Int) := by omega
          go_wp2_with fail
          go_meet
          exact ⟨by simp [h1], rfl⟩
      case rest =>
        obtain ⟨rfl, rfl⟩ := hcut
        by_cases hgo : i < ng ∧ i < 16
        · obtain ⟨h1, h2⟩ := hgo
          have et : (decide (i < ng) && decide (i < 16)) = true := by simp [h1, h2]
          rw [et]
          have k1 : (i : Int) < (ng : Int) := by omega
          have k2 : (i : Int) < 16 := by omega
          by_cases h3 : 1 ≤ i ∧ i ≤ 3
          · have k3 : ¬ (i : Int) < 1 := by omega
            have k4 : ¬ (i : Int) > 3 := by omega
            have es := regsTo_skip regs h3
            have ES := Lib.hid es
            clear hraw hbr et es h1 h2 h3
            go_wp2_with fail
            exact ⟨⟨i + 1, by omega, by omega, by go_num, by rw [ES.out]; exact HR1.out, HBR.out⟩, by simp [intOf]; omega⟩
          · obtain ⟨g, o, hA2, hgB, d0⟩ := (HG.out.next HBW.out) i (by have := HNG.out; omega)
            obtain ⟨x, hx⟩ : ∃ x, regs[i]'(by have := HNG.out; omega) = x := ⟨_, rfl⟩
            rw [hx] at d0
            subst hA2
            have d1 := (hbr.cell (p := ⟨g, o + i, none⟩) (by show g < _; omega)).trans d0
            have es := regsTo_set regs h2 h3
            rw [List.getD_eq_getElem?_getD, List.getElem?_eq_getElem (by have := HNG.out; omega), Option.getD_some, hx] at es
            have ES := Lib.hid es
            have dr : wr.cell? ⟨bm, 2 + i, none⟩ = some (.int .i64 ((regsTo regs i).getD i 0)) := (hraw.b.cell (2 + i)).trans (by rw [List.getElem?_toArray]; exact (mc_get hraw.rl).2.2.1 i h2)
            have fr := hraw.b.frozen (2 + i)
            have zbm := hraw.b.lt
            have H3 := Lib.hid h3
            clear hraw hbr et es h3 d0 hx
            by_cases h4 : (i : Int) < 1
            · go_wp2_with fail
              exact ⟨⟨i + 1, by omega, by omega, by go_num, by rw [ES.out]; exact HR1.out.setR i h2 x, HBR.out.setCell (by have := HR1.out.ge.1; exact this) _⟩, by simp [intOf]; omega⟩
            · have k4 : (i : Int) > 3 := by have := H3.out; omega
              go_wp2_with fail
              exact ⟨⟨i + 1, by omega, by omega, by go_num, by rw [ES.out]; exact HR1.out.setR i h2 x, HBR.out.setCell (by have := HR1.out.ge.1; exact this) _⟩, by simp [intOf]; omega⟩
        · have et : (decide (i < ng) && decide (i < 16)) = false := by simp; omega
          rw [et]
          have ee := regsTo_end regs (i := i) (by have := HNG.out; omega)
          rw [ee] at hraw
          obtain ⟨rl, hrl⟩ : ∃ rl, regsL regs = rl := ⟨_, rfl⟩
          have HRL := Lib.hid hrl
          rw [hrl] at hraw
          have HR2 := Lib.hid hraw
          generalize wr = w4 at *
          generalize i = iE at *
          clear hraw hbr et ee hgo HR1 hi1 hi2 i0 hrl
          have HS0 : Hid (preM 0 ++ List.replicate (mm - 0) 0 = List.replicate mm 0) := Lib.hid (by simp [preM])
          have hfm : fp + 80 ≤ mm := by have := HMM.out; omega
          go_upto_region 9 with fail
          go_loopw [18] (fun v18 wr => ∃ i : Nat, i ≤ fp ∧ v18 = .int .i64 i ∧ RawM wr w2.heap.size bm gm gs 53 3 46 (mkM fp sb rl (preM i ++ List.replicate (mm - i) 0) (List.replicate ss [])) (List.replicate ss (.slice none 0 0)) ∧ Below w2.heap.size w2 wr) (fun v _ => fp - (intOf v).toNat)
          case atStart => exact ⟨0, Nat.zero_le _, rfl, by rw [HS0.out]; exact HR2.out, HBR.out⟩
          case round =>
            obtain ⟨i, hi1, rfl, hraw, hbr⟩ := hrel
            have HR3 := Lib.hid hraw; have HBR3 := Lib.hid hbr
            clear HR2 HS0
            have i0 : (0 : Int) ≤ (i : Int) := by omega
            by_cases h1 : i < fp
            · have k1 : (i : Int) < (fp : Int) := by omega
              obtain ⟨n, hn⟩ : ∃ n, mm - i = n + 1 := ⟨mm - i - 1, by omega⟩
              have hn2 : mm - (i + 1) = n := by omega
              have es := fill_set (preM i) 0 (100 + (i : Int)) n
              rw [preM_length, ← preM_succ, ← hn, ← hn2] at es
              have ES := Lib.hid es
              have hlen : (preM i ++ List.replicate (mm - i) (0 : Int)).length = mm := by rw [List.length_append, preM_length, List.length_replicate]; omega
              have cb := hraw.b.cell 18
              have ec : (mcells (mkM fp sb rl (preM i ++ List.replicate (mm - i) 0) (List.replicate ss [])) (.slice (some ⟨gm, 0, none⟩) (preM i ++ List.replicate (mm - i) (0 : Int)).length (preM i ++ List.replicate (mm - i) (0 : Int)).length) (.slice (some ⟨gs, 0, none⟩) (List.replicate ss ([] : List Int)).length (List.replicate ss ([] : List Int)).length) (.slice none 0 0) (.slice none 0 0) (.slice none 0 0)).toArray[18]? = some (.slice (some ⟨gm, 0, none⟩) mm mm) := by rw [List.getElem?_toArray, (mc_get hraw.rl).2.2.2.1, hlen]
              replace cb := cb.trans ec
              obtain ⟨y, dy⟩ : ∃ y, wr.cell? ⟨gm, i, none⟩ = some y := ⟨_, (hraw.m.cell i).trans (Array.getElem?_eq_getElem (by simp only [List.size_toArray, intCells_length]; show i < (preM i ++ List.replicate (mm - i) (0 : Int)).length; omega))⟩
              have fy := hraw.m.frozen i
              have zgm := hraw.m.lt; have zbm := hraw.b.lt
              have k2 : (i : Int) < (mm : Int) := by omega
              have k3 : IntKind.i64.wrap (100 + (i : Int)) = 100 + (i : Int) := wrap_small _ (by omega) (by omega)
              clear hraw hbr es ec hlen hn hn2
              go_wp2_with fail
              exact ⟨⟨i + 1, by omega, by go_num, by rw [← ES.out]; exact HR3.out.setM i (100 + (i : Int)), HBR3.out.setCell (by have := HR3.out.ge.2.1; exact this) _⟩, by simp [intOf]; omega⟩
            · obtain rfl : i = fp := by omega
              obtain ⟨ml, hml⟩ : ∃ ml : List Int, preM i ++ List.replicate (mm - i) 0 = ml := ⟨_, rfl⟩
              have hmll : ml.length = mm := by rw [← hml, List.length_append, preM_length, List.length_replicate]; omega
              have HML := Lib.hid hml; have HMLL := Lib.hid hmll
              rw [hml] at hraw
              have HS0 : Hid (([] : List Int) :: (preS 0 ++ List.replicate (ss - 1 - 0) []) = List.replicate ss []) := Lib.hid (by
                obtain ⟨n, hn⟩ : ∃ n, ss = n + 1 := ⟨ss - 1, by have := HSS.out; omega⟩
                rw [hn, List.replicate_succ]; simp [preS])
              have HR4 := Lib.hid hraw
              have hsm : sb + 1 ≤ ss := by have := HSS.out; omega
              generalize wr = w5 at *
              clear hraw hbr h1 HR3 hml hmll hi1 i0
              go_upto_region 13 with fail
              go_loopw [19] (fun v19 wr => ∃ (j : Nat) (sv : List Value), j ≤ sb ∧ v19 = .int .i64 ((j : Int) + 1) ∧ RawM wr w2.heap.size bm gm gs 53 3 46 (mkM i sb rl ml ([] :: (preS j ++ List.replicate (ss - 1 - j) []))) sv ∧ (∀ t, j < t → t < ss → sv[t]? = some (.slice none 0 0)) ∧ Below w2.heap.size w2 wr) (fun v _ => sb + 1 - (intOf v).toNat)
              case atStart => exact ⟨0, _, Nat.zero_le _, rfl, by rw [HS0.out]; exact HR4.out, fun t _ ht => by simp [ht], HBR3.out⟩
              case round =>
                obtain ⟨j, sv, hj1, rfl, hraw, hnil, hbr⟩ := hrel
                have HR5 := Lib.hid hraw; have HBR5 := Lib.hid hbr; have HNIL := Lib.hid hnil
                clear hnil
                clear HR4 HS0
                have j0 : (0 : Int) ≤ (j : Int) := by omega
                have hslen : ([] :: (preS j ++ List.replicate (ss - 1 - j) ([] : List Int))).length = ss := by rw [List.length_cons, List.length_append, preS_length, List.length_replicate]; omega
                by_cases h1 : j < sb
                · have k1 : (j : Int) + 1 ≤ (sb : Int) := by omega
                  obtain ⟨n, hn⟩ : ∃ n, ss - 1 - j = n + 1 := ⟨ss - 1 - j - 1, by omega⟩
                  have hn2 : ss - 1 - (j + 1) = n := by omega
                  have es : ([] :: (preS j ++ List.replicate (n + 1) ([] : List Int))).set (j + 1) [201 + (j : Int)] = [] :: (preS (j + 1) ++ List.replicate n []) := by
                    rw [List.set_cons_succ]
                    have := fill_set (preS j) [] [201 + (j : Int)] n
                    rw [preS_length, ← preS_succ] at this
                    rw [this]
                  rw [← hn, ← hn2] at es
                  have ES := Lib.hid es
                  have cb : wr.cell? ⟨bm, 19, none⟩ = some (.slice (some ⟨gs, 0, none⟩) ss ss) := (hraw.b.cell 19).trans (by rw [List.getElem?_toArray, (mc_get hraw.rl).2.2.2.2.1]; show some (Value.slice _ ([] :: (preS j ++ List.replicate (ss - 1 - j) ([] : List Int))).length ([] :: (preS j ++ List.replicate (ss - 1 - j) ([] : List Int))).length) = _; rw [hslen])
                  have hsvl : sv.length = ss := hraw.sl.trans hslen
                  obtain ⟨y, dy⟩ : ∃ y, wr.cell? ⟨gs, j + 1, none⟩ = some y := ⟨_, (hraw.s.cell (j + 1)).trans (Array.getElem?_eq_getElem (by rw [List.size_toArray]; omega))⟩
                  have fy := hraw.s.frozen (j + 1)
                  have zgs := hraw.s.lt; have zbm := hraw.b.lt; have zgm := hraw.m.lt
                  have k2 : (j : Int) + 1 < (ss : Int) := by omega
                  have k3 : IntKind.i64.wrap (200 + ((j : Int) + 1)) = 201 + (j : Int) := by rw [show 200 + ((j : Int) + 1) = 201 + (j : Int) by omega]; exact wrap_small _ (by omega) (by omega)
                  have k4 : IntKind.i64.wrap ((j : Int) + 1 + 1) = (((j + 1 : Nat) : Int) + 1) := by rw [show (j : Int) + 1 + 1 = (((j + 1 : Nat) : Int) + 1) by omega]; exact wrap_small _ (by omega) (by omega)
                  have k5 : ((j : Int) + 1).toNat = j + 1 := by omega
                  clear hraw hbr es hslen hn hn2 hsvl
                  go_wp2_with fail
                  have hal : Below wr.heap.size wr (wr.alloc (.cells #[.int .i64 (201 + (j : Int))] 3)) := (Below.refl _ _).alloc (Nat.le_refl _) _
                  have hge := HR5.out.ge
                  have hRA := (HR5.out.next hal).setS (j + 1) (u := .slice (some ⟨wr.heap.size, 0, none⟩) 1 1) (l := [201 + (j : Int)]) ⟨_, 1, rfl, Nat.le_refl _, (fun e => by cases e), rfl, fun _ => ⟨wr.heap.size, 0, rfl, ⟨by have := HBR5.out.size; omega, by simp, by omega, by omega, by omega⟩, fun t u hu => by rw [Nat.zero_add]; exact (Blk.new wr _ _).cell t |>.trans (by simpa [intCells] using hu)⟩⟩
                  have hBA : Below w2.heap.size w2 ((wr.alloc (.cells #[.int .i64 (201 + (j : Int))] 3)).setCell ⟨gs, j + 1, none⟩ (.slice (some ⟨wr.heap.size, 0, none⟩) 1 1)) := (HBR5.out.next hal).setCell (p := ⟨gs, j + 1, none⟩) (by exact hge.2.2) _
                  rw [World.setCell_alloc_past _ gs (j + 1) _ zgs] at hRA hBA
                  refine ⟨⟨j + 1, _, by omega, congrArg (Value.int .i64) (by omega), by rw [← ES.out]; exact hRA, fun t h1 h2 => by rw [List.getElem?_set, if_neg (by omega)]; exact HNIL.out t (by omega) h2, hBA⟩, by simp [intOf]; omega⟩
                · obtain rfl : j = sb := by omega
                  have hslen2 := hslen
                  obtain ⟨sq, hsq⟩ : ∃ sq : List (List Int), [] :: (preS j ++ List.replicate (ss - 1 - j) []) = sq := ⟨_, rfl⟩
                  rw [hsq] at hraw hslen2
                  have HSQ := Lib.hid hsq
                  have cb : wr.cell? ⟨bm, 19, none⟩ = some (.slice (some ⟨gs, 0, none⟩) ss ss) := (hraw.b.cell 19).trans (by rw [List.getElem?_toArray, (mc_get hraw.rl).2.2.2.2.1]; show some (Value.slice _ sq.length sq.length) = _; rw [hslen2])
                  have hsvl : sv.length = ss := hraw.sl.trans hslen2
                  obtain ⟨y, dy⟩ : ∃ y, wr.cell? ⟨gs, 0, none⟩ = some y := ⟨_, (hraw.s.cell 0).trans (Array.getElem?_eq_getElem (by rw [List.size_toArray]; omega))⟩
                  have fy := hraw.s.frozen 0
                  have zgs := hraw.s.lt; have zbm := hraw.b.lt; have zgm := hraw.m.lt
                  have k2 : (0 : Int) < (ss : Int) := by omega
                  have k2n : 0 < ss := by omega
                  have HR6 := Lib.hid hraw
                  have HE6 : Hid (Sl wr (fun k => k < B) 1 (.slice E ne ce) ne (intCells scr)) := Lib.hid (HE.out.keep (fun b o hd => ((HBW.out.trans (HBR5.out.mono zB)).cell (p := ⟨b, o, none⟩) hd)) (fun _ h => h))
                  have zBr : B ≤ wr.heap.size := by have := HBR5.out.size; omega
                  generalize wr = w6 at *
                  clear hraw hbr h1 hslen hslen2 hsq HR5 hj1 j0
                  go_upto_region 16 with fail
                  refine wp_region_heldL (S := fun W => Below w6.heap.size w6 W) 6 (by kernel_rfl) ((Below.refl _ _).drew) (fun hH => ?_)
                  refine wpAnyL_at ?_
                  intro wa hwa
                  have hX : Below w6.heap.size w6 wa := by rw [hwa]; exact (Below.refl _ _).drew
                  replace hH := hX
                  clear hwa
                  refine tkL 0 (v := ?_) rfl (by kernel_rfl) (fun _ _ _ h => h) (by rfl) ?hy hH ?_
                  case hy => (intro w9_ hS9; clear hS9; go_simp; try with_reducible rfl)
                  (try simp only [Bk.PU, Act.put])
                  refine tkL 1 (v := ?_) rfl (by kernel_rfl) (fun _ _ _ h => h) (by rfl) ?hy hH ?_
                  case hy => (intro w9_ hS9; have t := (hS9.cell (p := ⟨bm, 19, none⟩) zbm).trans cb; clear hS9; go_simp; try with_reducible rfl)
                  (try simp only [Bk.PU, Act.put])
                  refine tkL 3 (v := ?_) rfl (by kernel_rfl) (fun _ _ _ h => h) (by rfl) ?hy hH ?_
                  case hy => (intro w9_ hS9; clear hS9; go_simp; try with_reducible rfl)
                  (try simp only [Bk.PU, Act.put])
                  refine wpAnyL_next (i := 2) rfl (by kernel_rfl) (fun K hK => ?_)
                  go_simp
                  replace hH : Below w6.heap.size w6 _ := hX.alloc (by have := hX.size; omega) (.cells #[] 3)
                  refine hK.out _ _ hH (fun _ => ?_)
                  clear hK
                  (try simp only [Bk.PU, Act.put])
                  refine wpAnyL_at ?_
                  intro wb hwn
                  have hbn : Below wa.heap.size wa wb := by rw [hwn]; exact (Below.refl _ _).alloc (Nat.le_refl _) _
                  have K_2 : Blk wb wa.heap.size 3 #[] := by rw [hwn]; exact Blk.new _ _ _
                  have hz_2 : w6.heap.size ≤ wa.heap.size := hX.size
                  replace hX := hX.next hbn
                  replace hH := hX
                  clear hwn hbn
                  refine wpAnyL_next (i := 4) rfl (by kernel_rfl) (fun K hK => ?_)
                  rw [if_pos (by rfl)]
                  refine wp_appS (.tmp 90) (.tmp 91) 46 rfl w6.heap.size 3 i1 _ 1 8 Tryz.underlying46 HI.out HZ.out HSZ.out HBY.out rfl (by decide) (.slice (some ⟨wa.heap.size, 0, none⟩) 0 0) 0 [] (by simp [Act.eval]) (own_blk0 K_2 hz_2) (by simp [Act.eval]) (HE6.out.keep (D' := fun k => k < B) (fun b o hd => hX.cell (p := ⟨b, o, none⟩) (by show b < _; omega)) (fun _ h => h)) (oneInt _) (by unfold maxLen; omega) (by omega) hX.size ?_
                  intro v2 wc hown2 hgr2 hat2
                  simp only [Nat.zero_add, List.nil_append] at hown2
                  replace hX := hX.grown hgr2 hX.size (fun k hk => by simp [Value.ownBlock] at hk; omega)
                  replace hH := hX
                  have HS2 := Lib.hid (show Sl wc (fun k => w6.heap.size ≤ k ∧ k < wc.heap.size) 1 v2 scr.length (intCells scr) from by rw [HNE.out]; exact Sl.of_own hown2)
                  obtain ⟨A2, c2, rfl⟩ := own_form hown2
                  have E2 : wc.cell? ⟨gs, 0, none⟩ = some y := (hX.cell (p := ⟨gs, 0, none⟩) zgs).trans dy
                  have F2 : wc.frozen? ⟨gs, 0, none⟩ = false := ((bcell hX).2 gs 0 zgs).trans fy
                  clear hown2 hgr2 hat2 K_2
                  refine hK.out _ _ hH (fun _ => ?_)
                  clear hK
                  (try simp only [Bk.PU, Act.put])
                  refine tkL 5 (v := ?_) rfl (by kernel_rfl) (fun _ _ _ h => h) (by rfl) ?hy hH ?_
                  case hy => (intro w9_ hS9; clear hS9; go_simp; try with_reducible rfl)
                  (try simp only [Bk.PU, Act.put])
                  refine wpAnyL_last (l := 6) rfl (by kernel_rfl) (by kernel_rfl) (fun K hK => ?_)
                  go_simp
                  refine hK.out _ _ ?_
                  clear hK
                  (try simp only [Bk.PU, Act.put])
                  go_wp2_with fail
                  refine wp_nameE ?_
                  intro w7 hw7
                  have hge := HR6.out.ge; have hne := HR6.out.ne
                  have hR7 : RawM w7 w2.heap.size bm gm gs 53 3 46 (mkM i j rl ml (sq.set 0 scr)) (sv.set 0 (.slice A2 ne c2)) := by rw [hw7]; exact (HR6.out.next hX).setS 0 (HS2.out.mono fun k hk => ⟨by have := HBR5.out.size; omega, hk.2, by omega, by omega, by omega⟩)
                  have hB7 : Below w2.heap.size w2 w7 := by rw [hw7]; exact (HBR5.out.next hX).setCell (p := ⟨gs, 0, none⟩) (by exact hge.2.2) _
                  have hsq0 : sq.set 0 scr = scr :: (preS j ++ List.replicate (ss - 1 - j) []) := by rw [← HSQ.out]; rfl
                  rw [hsq0] at hR7
                  have hnil7 : ∀ t, j < t → t < ss → (sv.set 0 (Value.slice A2 ne c2))[t]? = some (.slice none 0 0) := fun t h1 h2 => by rw [List.getElem?_set, if_neg (by omega)]; exact HNIL.out t h1 h2
                  have HR7 := Lib.hid hR7; have HB7 := Lib.hid hB7; have HN7 := Lib.hid hnil7
                  clear hw7 hR7 hB7 hsq0 hnil7 hge hne E2 F2 HS2 hX hH HR6 HSQ HNIL HBR5 cb dy fy hsvl k2 HE6 zgs zbm zgm zBr
                  have hmm2 : mm ≤ i + ct + 80 := by have := HMM.out; omega
                  have hmm3 : i + ct + 80 ≤ mm := by have := HMM.out; omega
                  have hss2 : ss ≤ 1 + j + st := by have := HSS.out; omega
                  have hss3 : 1 + j + st ≤ ss := by have := HSS.out; omega
                  have HST0 : Hid (RawM w7 w2.heap.size bm gm gs 53 3 46 (mkM i j rl (preM i ++ (memL (vs.take 0) (cs.take 0) ++ List.replicate (ct + 80 - (memL (vs.take 0) (cs.take 0)).length) 0)) (scr :: (preS j ++ (stkL (vs.take 0) (cs.take 0) ++ List.replicate (st - (stkL (vs.take 0) (cs.take 0)).length) [])))) (sv.set 0 (.slice A2 ne c2))) := Lib.hid (by
                    have h := HR7.out
                    rw [← HML.out, show mm - i = ct + 80 by omega, show ss - 1 - j = st by omega] at h
                    simpa [memL, stkL] using h)
                  have HN70 : Hid (∀ t, 1 + j + (stkL (vs.take 0) (cs.take 0)).length ≤ t → t < ss → (sv.set 0 (Value.slice A2 ne c2))[t]? = some (.slice none 0 0)) := Lib.hid fun t h1 h2 => HN7.out t (by omega) h2
                  clear HR7 HN7 HML HMLL
                  go_loopw [20] (fun v20 wr => ∃ (a : Nat) (sv : List Value), a ≤ nv ∧ v20 = .int .i64 a ∧ RawM wr w2.heap.size bm gm gs 53 3 46 (mkM i j rl (preM i ++ (memL (vs.take a) (cs.take a) ++ List.replicate (ct + 80 - (memL (vs.take a) (cs.take a)).length) 0)) (scr :: (preS j ++ (stkL (vs.take a) (cs.take a) ++ List.replicate (st - (stkL (vs.take a) (cs.take a)).length) [])))) sv ∧ (∀ t, 1 + j + (stkL (vs.take a) (cs.take a)).length ≤ t → t < ss → sv[t]? = some (.slice none 0 0)) ∧ Below w2.heap.size w2 wr) (fun v _ => nv - (intOf v).toNat)
                  case atStart => exact ⟨0, _, Nat.zero_le _, rfl, HST0.out, HN70.out, HB7.out⟩
                  case round =>
                    obtain ⟨a, sv, ha, rfl, hraw, hnil, hbr⟩ := hrel
                    have HR8 := Lib.hid hraw; have HN8 := Lib.hid hnil; have HBR8 := Lib.hid hbr
                    clear HST0 HN70
                    by_cases hlt : a < nv
                    · obtain ⟨v, hva⟩ : ∃ v, vs[a]? = some v := ⟨_, List.getElem?_eq_getElem (by have := HNV.out; omega)⟩
                      obtain ⟨c, hca⟩ : ∃ c, cs[a]? = some c := ⟨_, List.getElem?_eq_getElem (by have := HF.out.len; have := HNV.out; omega)⟩
                      obtain ⟨ia, hia⟩ : ∃ ia, a = ia := ⟨_, rfl⟩
                      have hvok := HOK.out v (List.mem_of_getElem? hva)
                      have hmt := memL_take hva hca
                      have hlm := memL_length (HF.out.take a)
                      have hls := stkL_length (HF.out.take a)
                      have hlm1 := memL_length (HF.out.take (a + 1))
                      have hls1 := stkL_length (HF.out.take (a + 1))
                      have hst1 := sums_take vs HOK.out (a + 1)
                      have hsg := slotsL_get hva 0 0
                      rw [HSL0.out] at hsg
                      rw [HCT.out, HST.out] at hst1
                      obtain ⟨mA, hmA⟩ : ∃ mA, memL (vs.take a) (cs.take a) = mA := ⟨_, rfl⟩
                      obtain ⟨sA, hsA⟩ : ∃ sA, stkL (vs.take a) (cs.take a) = sA := ⟨_, rfl⟩
                      rw [hmA] at hmt hlm hraw; rw [hsA] at hmt hls hraw hnil
                      obtain ⟨pa, hpa⟩ : ∃ pa, mA.length = pa := ⟨_, rfl⟩
                      obtain ⟨qa, hqa⟩ : ∃ qa, sA.length = qa := ⟨_, rfl⟩
                      rw [hpa] at hlm hraw; rw [hqa] at hls hraw hnil
                      rw [← hlm, ← hls] at hsg
                      obtain ⟨g, o, A', cp', hA2, hgB, d0, hccp, hAn, hci⟩ := (HC.out.next HBW.out) a c hca
                      subst hA2
                      obtain ⟨gu, capu, ev, _, hgu2, _, _, hcl⟩ := own_some HOW.out (by omega)
                      injection ev with ev _ ev2
                      subst ev; subst ev2
                      obtain ⟨t0, t1, t2, t3⟩ := slotCells_get sl a _ hsg
                      obtain ⟨nm, k, len⟩ := v
                      obtain ⟨pos, hpos⟩ : ∃ pos : Int, (if k = 3 then 0 + (qa : Int) + 1 else 0 + (pa : Int)) = pos := ⟨_, rfl⟩
                      dsimp only at t0 t1 t2 t3
                      rw [hpos] at t3
                      have e0 := (hbr.cell (p := ⟨gu, a * 4, none⟩) hgu2).trans (hcl _ _ t0)
                      have e1 := (hbr.cell (p := ⟨gu, a * 4 + 1, none⟩) hgu2).trans (hcl _ _ t1)
                      have e2 := (hbr.cell (p := ⟨gu, a * 4 + 2, none⟩) hgu2).trans (hcl _ _ t2)
                      have e3 := (hbr.cell (p := ⟨gu, a * 4 + 3, none⟩) hgu2).trans (hcl _ _ t3)
                      have a0 : (0 : Int) ≤ (a : Int) := by omega
                      have a1 : (a : Int) < (nv : Int) := by omega
                      have hnc' : nc = nv := by have := HF.out.len; have := HNV.out; have := HNC.out; omega
                      have a2 : (a : Int) < (nc : Int) := by omega
                      clear hnc'
                      obtain ⟨cl, hcl'⟩ : ∃ cl, c.length = cl := ⟨_, rfl⟩
                      rw [hcl'] at d0 hccp
                      have HCI := Lib.hid hci; have HCL := Lib.hid hcl'; have HCA := Lib.hid hca; have HVA := Lib.hid hva
                      have HR8' := Lib.hid hraw; have HN8' := Lib.hid hnil
                      have HPA := Lib.hid hpa; have HQA := Lib.hid hqa; have HMT := Lib.hid hmt; have HLM1 := Lib.hid hlm1; have HLS1 := Lib.hid hls1; have HST1 := Lib.hid hst1; have HPOS := Lib.hid hpos
                      have hpc : (pa : Int) ≤ ct := by have := (sums_take vs HOK.out a).1; rw [HCT.out, ← hlm] at this; omega
                      have hqc : (qa : Int) ≤ st := by have := (sums_take vs HOK.out a).2; rw [HST.out, ← hls] at this; omega
                      have hstkl := HF.out.stk a ⟨nm, k, len⟩ c hva hca; have hfixl := HF.out.fix a ⟨nm, k, len⟩ c hva hca
                      have HSTK := Lib.hid hstkl; have HFIX := Lib.hid hfixl
                      clear hraw hnil hbr HR8 HN8 hcl t0 t1 t2 t3 hva hca hmt hlm hls hlm1 hls1 hst1 hsg hmA hsA hpa hqa hci hAn hcl' hia hvok hpos hstkl hfixl hccp
                      go_upto_region 21 with fail
                      refine wp_nameE ?_
                      intro wi hwi
                      have hbi : Below wr.heap.size wr wi := by rw [hwi]; exact (by go_grown)
                      have KS : Blk wi wr.heap.size 78 #[.string nm, .int .u8 k, .int .i64 len, .int .i64 pos] := by rw [hwi]; exact (by repeat' (first | assumption | exact Blk.new' (by simp) _ _ | apply Blk.alloc | apply Blk.drew))
                      have HKS := Lib.hid KS
                      have hRi := HR8'.out.next hbi
                      have HRI := Lib.hid hRi
                      have HBI := Lib.hid (HBR8.out.next hbi)
                      have hzi : wr.heap.size < wi.heap.size := KS.lt
                      have hw2i : w2.heap.size ≤ wr.heap.size := HBR8.out.size
                      clear hwi hbi KS e0 e1 e2 e3 hRi HR8' HBR8
                      generalize wr.heap.size = bs at *
                      by_cases hk3 : k = 3
                      · subst hk3
                        have hk3' : ((3 : Int) == 3) = true := rfl
                        have hpos2 : pos = (qa : Int) + 1 := by have := HPOS.out; rw [if_pos rfl] at this; omega
                        subst hpos2
                        have hqb : qa + 1 ≤ st := by
                          have h1 := HMT.out.2; rw [if_pos rfl] at h1
                          have h2 := HLS1.out; rw [h1, List.length_append, HQA.out] at h2
                          simp at h2
                          have := HST1.out.2; omega
                        have hcl3 : cl ≤ 1000 := by have := HSTK.out rfl; rw [HCL.out] at this; exact this
                        obtain ⟨ix, hix⟩ : ∃ ix, 1 + j + qa = ix := ⟨_, rfl⟩
                        have HIX := Lib.hid hix
                        have hixs : ix < ss := by omega
                        have hnil := HN8'.out ix (by omega) hixs
                        have hslen : (scr :: (preS j ++ (sA ++ List.replicate (st - qa) ([] : List Int)))).length = ss := by simp only [List.length_cons, List.length_append, preS_length, HQA.out, List.length_replicate]; omega
                        have hsvl : sv.length = ss := HRI.out.sl.trans hslen
                        have HSVL := Lib.hid hsvl; have HSLEN := Lib.hid hslen
                        have hsv0 : sv.set ix (.slice none 0 0) = sv := by
                          apply List.ext_getElem?
                          intro t
                          rw [List.getElem?_set]
                          by_cases e : ix = t
                          · subst e; rw [if_pos rfl, if_pos (by omega)]; exact hnil.symm
                          · rw [if_neg e]
                        have HSV0 := Lib.hid hsv0
                        have hbx : bm < wi.heap.size ∧ gs < wi.heap.size ∧ gm < wi.heap.size := ⟨HRI.out.b.lt, HRI.out.s.lt, HRI.out.m.lt⟩
                        have zi2 : bs < wi.heap.size := HKS.out.lt
                        have hgs2 : w2.heap.size ≤ gs := HRI.out.ge.2.2
                        have zw2i : w2.heap.size ≤ wi.heap.size := HBI.out.size
                        clear hix hnil hslen hsvl hsv0
                        go_upto_region 22 with fail
                        go_loopw [22] (fun v22 wx => ∃ (k' : Nat) (q : Value), k' ≤ cl ∧ v22 = .int .i64 k' ∧ wx.ownsRow wi.heap.size 3 1 q k' (intCells (c.take k')) ∧ Blk wx gs 46 (sv.set ix q).toArray ∧ Fr (fun b => b = gs ∨ wi.heap.size ≤ b) wi wx) (fun v _ => cl - (intOf v).toNat)
                        case atStart => exact ⟨0, .slice none 0 0, Nat.zero_le _, rfl, World.ownsRow_nil _ _ _ _, by rw [HSV0.out]; exact HRI.out.s, Fr.refl _ _⟩
                        case round =>
                          obtain ⟨k, q, hk', rfl, hq, hsb, hfr⟩ := hrel
                          obtain ⟨Aq, cq, rfl⟩ := own_form hq
                          have HQ9 := Lib.hid hq; have HSB := Lib.hid hsb; have HFR9 := Lib.hid hfr
                          have dg := (hfr.cell (b := g) (by omega) (by omega) (o + a)).trans ((HBI.out.cell (p := ⟨g, o + a, none⟩) (by show g < _; omega)).trans d0)
                          have z0 : (0 : Int) ≤ (k : Int) := by omega
                          by_cases hlt2 : k < cl
                          · have z1 : (k : Int) < (cl : Int) := by omega
                            obtain ⟨x, hx⟩ : ∃ x, c[k]? = some x := ⟨_, List.getElem?_eq_getElem (by have := HCL.out; omega)⟩
                            have hxe : c[k]'(by have := HCL.out; omega) = x := by have := List.getElem?_eq_getElem (l := c) (i := k) (by have := HCL.out; omega); rw [hx] at this; exact (Option.some.inj this).symm
                            obtain ⟨gc, oc, hAc, hgcB, dh0⟩ := HCI.out k (by have := HCL.out; omega)
                            rw [hxe] at dh0
                            subst hAc
                            have dh := (hfr.cell (b := gc) (by omega) (by omega) (oc + k)).trans ((HBI.out.cell (p := ⟨gc, oc + k, none⟩) (by show gc < _; omega)).trans dh0)
                            have htk : intCells (c.take k) ++ [.int .i64 x] = intCells (c.take (k + 1)) := by rw [take_snoc hx]; simp [intCells]
                            have HTK := Lib.hid htk
                            have hbm9 := hfr.blk HRI.out.b (by have := HRI.out.ne; omega)
                            have cb : wr.cell? ⟨bm, 19, none⟩ = some (.slice (some ⟨gs, 0, none⟩) ss ss) := (hbm9.cell 19).trans (by rw [List.getElem?_toArray, (mc_get HRI.out.rl).2.2.2.2.1]; show some (Value.slice _ (scr :: (preS j ++ (sA ++ List.replicate (st - qa) ([] : List Int)))).length (scr :: (preS j ++ (sA ++ List.replicate (st - qa) ([] : List Int)))).length) = _; rw [HSLEN.out])
                            have hks9 := hfr.blk HKS.out (by have := HRI.out.s.lt; have := HKS.out.ne_ HRI.out.s (by decide); omega)
                            have ks1 := hks9.cell 1; have d3 := hks9.cell 3
                            have dq : wr.cell? ⟨gs, ix, none⟩ = some (.slice Aq k cq) := (hsb.cell ix).trans (by rw [List.getElem?_toArray, List.getElem?_set, if_pos rfl, if_pos (by rw [HSVL.out]; exact hixs)])
                            have zfr := hfr.size
                            have zbm9 : bm < wr.heap.size := by omega
                            have zgs9 : gs < wr.heap.size := by omega
                            have z219 : bs < wr.heap.size := by omega
                            have zg9 : g < wr.heap.size := by omega
                            have zh9 : gc < wr.heap.size := by omega
                            have nbm : ¬ wi.heap.size ≤ bm := by omega
                            have ngs : ¬ wi.heap.size ≤ gs := by omega
                            have n21 : ¬ wi.heap.size ≤ bs := by omega
                            have ng9 : ¬ wi.heap.size ≤ g := by omega
                            have nh9 : ¬ wi.heap.size ≤ gc := by omega
                            have w1' : IntKind.i64.wrap ((j : Int) + ((qa : Int) + 1)) = (ix : Int) := by have := HIX.out; rw [show (j : Int) + ((qa : Int) + 1) = (ix : Int) by omega]; exact wrap_small _ (by omega) (by omega)
                            have v1 : (0 : Int) ≤ (ix : Int) := by omega
                            have v2 : (ix : Int) < (ss : Int) := by omega
                            clear hq hsb hfr hx hxe dh0 htk hbm9 hks9
                            go_upto_region 25 with fail
                            refine wp_region_heldL (S := fun W => Fr (fun k => wi.heap.size ≤ k) wr W) 24 (by kernel_rfl) ((Fr.refl _ _).drew) (fun hH => ?_)
                            refine wpAnyL_at ?_
                            intro wa hwa
                            have hX : Fr (fun k => wi.heap.size ≤ k) wr wa := by rw [hwa]; exact (Fr.refl _ _).drew
                            have HQ0 : wa.ownsRow wi.heap.size 3 1 (.slice Aq k cq) k (intCells (c.take k)) := by rw [hwa]; exact own_drew HQ9.out
                            replace hH := hX
                            clear hwa
                            refine tkL 0 (v := ?_) rfl (by kernel_rfl) (fun _ _ _ h => h) (by rfl) ?hy hH ?_
                            case hy => (intro w9_ hS9; clear hS9; go_simp; try with_reducible rfl)
                            (try simp only [Bk.PU, Act.put])
                            refine tkL 1 (v := ?_) rfl (by kernel_rfl) (fun _ _ _ h => h) (by rfl) ?hy hH ?_
                            case hy => (intro w9_ hS9; have t := (hS9.cell zbm9 nbm 19).trans cb; clear hS9; go_simp; try with_reducible rfl)
                            (try simp only [Bk.PU, Act.put])
                            refine tkL 2 (v := ?_) rfl (by kernel_rfl) (fun _ _ _ h => h) (by rfl) ?hy hH ?_
                            case hy => (intro w9_ hS9; clear hS9; go_simp; try with_reducible rfl)
                            (try simp only [Bk.PU, Act.put])
                            refine tkL 3 (v := ?_) rfl (by kernel_rfl) (fun _ _ _ h => h) (by rfl) ?hy hH ?_
                            case hy => (intro w9_ hS9; clear hS9; go_simp; try with_reducible rfl)
                            (try simp only [Bk.PU, Act.put])
                            refine tkL 4 (v := ?_) rfl (by kernel_rfl) (fun _ _ _ h => h) (by rfl) ?hy hH ?_
                            case hy => (intro w9_ hS9; have t := (hS9.cell z219 n21 3).trans d3; clear hS9; go_simp; try with_reducible rfl)
                            (try simp only [Bk.PU, Act.put])
                            refine tkL 5 (v := ?_) rfl (by kernel_rfl) (fun _ _ _ h => h) (by rfl) ?hy hH ?_
                            case hy => (intro w9_ hS9; clear hS9; go_simp; try with_reducible rfl)
                            (try simp only [Bk.PU, Act.put])
                            refine tkL 6 (v := ?_) rfl (by kernel_rfl) (fun _ _ _ h => h) (by rfl) ?hy hH ?_
                            case hy => (intro w9_ hS9; clear hS9; go_simp; try with_reducible rfl)
                            (try simp only [Bk.PU, Act.put])
                            refine tkL 7 (v := ?_) rfl (by kernel_rfl) (fun _ _ _ h => h) (by rfl) ?hy hH ?_
                            case hy => (intro w9_ hS9; have t := (hS9.cell zbm9 nbm 19).trans cb; clear hS9; go_simp; try with_reducible rfl)
                            (try simp only [Bk.PU, Act.put])
                            refine tkL 8 (v := ?_) rfl (by kernel_rfl) (fun _ _ _ h => h) (by rfl) ?hy hH ?_
                            case hy => (intro w9_ hS9; clear hS9; go_simp; try with_reducible rfl)
                            (try simp only [Bk.PU, Act.put])
                            refine tkL 9 (v := ?_) rfl (by kernel_rfl) (fun _ _ _ h => h) (by rfl) ?hy hH ?_
                            case hy => (intro w9_ hS9; clear hS9; go_simp; try with_reducible rfl)
                            (try simp only [Bk.PU, Act.put])
                            refine tkL 10 (v := ?_) rfl (by kernel_rfl) (fun _ _ _ h => h) (by rfl) ?hy hH ?_
                            case hy => (intro w9_ hS9; have t := (hS9.cell z219 n21 3).trans d3; clear hS9; go_simp; try with_reducible rfl)
                            (try simp only [Bk.PU, Act.put])
                            refine tkL 11 (v := ?_) rfl (by kernel_rfl) (fun _ _ _ h => h) (by rfl) ?hy hH ?_
                            case hy => (intro w9_ hS9; clear hS9; go_simp; try with_reducible rfl)
                            (try simp only [Bk.PU, Act.put])
                            refine tkL 12 (v := ?_) rfl (by kernel_rfl) (fun _ _ _ h => h) (by rfl) ?hy hH ?_
                            case hy => (intro w9_ hS9; clear hS9; go_simp; try with_reducible rfl)
                            (try simp only [Bk.PU, Act.put])
                            refine tkL 13 (v := ?_) rfl (by kernel_rfl) (fun _ _ _ h => h) (by rfl) ?hy hH ?_
                            case hy => (intro w9_ hS9; have t := (hS9.cell zgs9 ngs ix).trans dq; clear hS9; go_simp; try with_reducible rfl)
                            (try simp only [Bk.PU, Act.put])
                            refine tkL 14 (v := ?_) rfl (by kernel_rfl) (fun _ _ _ h => h) (by rfl) ?hy hH ?_
                            case hy => (intro w9_ hS9; clear hS9; go_simp; try with_reducible rfl)
                            (try simp only [Bk.PU, Act.put])
                            refine tkL 15 (v := ?_) rfl (by kernel_rfl) (fun _ _ _ h => h) (by rfl) ?hy hH ?_
                            case hy => (intro w9_ hS9; clear hS9; go_simp; try with_reducible rfl)
                            (try simp only [Bk.PU, Act.put])
                            refine tkL 16 (v := ?_) rfl (by kernel_rfl) (fun _ _ _ h => h) (by rfl) ?hy hH ?_
                            case hy => (intro w9_ hS9; clear hS9; go_simp; try with_reducible rfl)
                            (try simp only [Bk.PU, Act.put])
                            refine tkL 17 (v := ?_) rfl (by kernel_rfl) (fun _ _ _ h => h) (by rfl) ?hy hH ?_
                            case hy => (intro w9_ hS9; have t := (hS9.cell zg9 ng9 (o + a)).trans dg; clear hS9; go_simp; try with_reducible rfl)
                            (try simp only [Bk.PU, Act.put])
                            refine tkL 18 (v := ?_) rfl (by kernel_rfl) (fun _ _ _ h => h) (by rfl) ?hy hH ?_
                            case hy => (intro w9_ hS9; clear hS9; go_simp; try with_reducible rfl)
                            (try simp only [Bk.PU, Act.put])
                            refine tkL 19 (v := ?_) rfl (by kernel_rfl) (fun _ _ _ h => h) (by rfl) ?hy hH ?_
                            case hy => (intro w9_ hS9; clear hS9; go_simp; try with_reducible rfl)
                            (try simp only [Bk.PU, Act.put])
                            refine tkL 20 (v := ?_) rfl (by kernel_rfl) (fun _ _ _ h => h) (by rfl) ?hy hH ?_
                            case hy => (intro w9_ hS9; have t := (hS9.cell zh9 nh9 (oc + k)).trans dh; clear hS9; go_simp; try with_reducible rfl)
                            (try simp only [Bk.PU, Act.put])
                            refine wpAnyL_next (i := 21) rfl (by kernel_rfl) (fun K hK => ?_)
                            go_simp
                            replace hH : Fr (fun k => wi.heap.size ≤ k) wr _ := hX.alloc (.cells #[.int .i64 x] 3)
                            refine hK.out _ _ hH (fun _ => ?_)
                            clear hK
                            (try simp only [Bk.PU, Act.put])
                            refine wpAnyL_at ?_
                            intro wb hwn
                            have hbn : Below wa.heap.size wa wb := by rw [hwn]; exact (Below.refl _ _).alloc (Nat.le_refl _) _
                            have K_21 : Blk wb wa.heap.size 3 #[.int .i64 x] := by rw [hwn]; exact Blk.new _ _ _
                            replace hX := hX.next hbn
                            replace hH := hX
                            replace HQ0 := own_below HQ0 hbn (Nat.le_refl _)
                            clear hwn hbn
                            refine wpAnyL_next (i := 22) rfl (by kernel_rfl) (fun K hK => ?_)
                            rw [if_pos (by rfl)]
                            refine wp_appS (.tmp 129) (.tmp 137) 46 rfl wi.heap.size 3 i1 _ 1 8 Tryz.underlying46 HI.out HZ.out HSZ.out HBY.out rfl (by decide) (.slice Aq k cq) k (intCells (c.take k)) (by simp [Act.eval]) HQ0 (by simp [Act.eval]) (sl_blk1 K_21) (by intro u hu; simp at hu; subst hu; rfl) (by unfold maxLen; omega) (by omega) (by have := hX.size; omega) ?_
                            intro v2 wc hown2 hgr2 hat2
                            rw [HTK.out] at hown2
                            replace hX := hX.grownE hgr2 (fun k hk => (own_gE HQ0 hk).1)
                            replace hH := hX
                            have HS2 := Lib.hid hown2
                            obtain ⟨A2, c2, rfl⟩ := own_form hown2
                            have E2 : wc.cell? ⟨gs, ix, none⟩ = some (.slice Aq k cq) := (hX.cell zgs9 ngs ix).trans dq
                            have F2 : wc.frozen? ⟨gs, ix, none⟩ = false := (hX.blk HSB.out ngs).frozen ix
                            clear hown2 hgr2 hat2 K_21 HQ0
                            refine hK.out _ _ hH (fun _ => ?_)
                            clear hK
                            (try simp only [Bk.PU, Act.put])
                            refine tkL 23 (v := ?_) rfl (by kernel_rfl) (fun _ _ _ h => h) (by rfl) ?hy hH ?_
                            case hy => (intro w9_ hS9; clear hS9; go_simp; try with_reducible rfl)
                            (try simp only [Bk.PU, Act.put])
                            refine wpAnyL_last (l := 24) rfl (by kernel_rfl) (by kernel_rfl) (fun K hK => ?_)
                            go_simp
                            refine hK.out _ _ ?_
                            clear hK
                            (try simp only [Bk.PU, Act.put])
                            go_wp2_with fail
                            have hF := HFR9.out.trans ((hX.mono (O' := fun b => b = gs ∨ wi.heap.size ≤ b) fun k hk => .inr hk).set (p := ⟨gs, ix, none⟩) (.inl rfl) (.slice A2 (k + 1) c2))
                            have hS := (hX.blk HSB.out ngs).set_ ix (.slice A2 (k + 1) c2)
                            rw [List.setIfInBounds_toArray, List.set_set] at hS
                            have hQ : (World.setCell _ ⟨gs, ix, none⟩ (.slice A2 (k + 1) c2)).ownsRow wi.heap.size 3 1 (.slice A2 (k + 1) c2) (k + 1) (intCells (c.take (k + 1))) := own_of_block HS2.out fun b hb hv => Below.heap_setCell _ _ _ _ (by have := (own_gE HS2.out hv).1; show b ≠ gs; omega)
                            exact ⟨⟨k + 1, .slice A2 (k + 1) c2, by omega, by go_num, hQ, hS, hF⟩, by simp [intOf]; omega⟩
                          · obtain rfl : k = cl := by omega
                            clear hq hsb hfr
                            go_wp2_with fail
                            refine ⟨?_, by simp [intOf]; omega⟩
                            have ect : c.take k = c := by rw [← HCL.out]; exact List.take_length
                            have hmt := HMT.out
                            simp only [if_true, eq_self, List.append_nil] at hmt
                            have el : (stkL (vs.take (a + 1)) (cs.take (a + 1))).length = qa + 1 := by rw [hmt.2, List.length_append, HQA.out]; rfl
                            have hP := HRI.out.push (by omega) HFR9.out (k := ix) HSB.out (by rw [ect, HCL.out]) HQ9.out
                            have e4 : (scr :: (preS j ++ (sA ++ List.replicate (st - qa) ([] : List Int)))).set ix (c.take k) = scr :: (preS j ++ ((sA ++ [c]) ++ List.replicate (st - (qa + 1)) [])) := by
                              rw [ect, show st - qa = (st - (qa + 1)) + 1 by omega]
                              exact fill_set4 scr (preS j) sA [] c _ ix (by rw [preS_length, HQA.out]; exact HIX.out.symm)
                            refine ⟨a + 1, sv.set ix (.slice Aq k cq), by omega, by go_num, ?_, ?_, HBI.out.trans (HFR9.out.below (by omega) (fun b hb => by omega))⟩
                            · rw [hmt.1, el, hmt.2, HPA.out, ← e4]
                              exact hP
                            · intro t h1 h2
                              rw [el] at h1
                              rw [List.getElem?_set, if_neg (by have := HIX.out; omega)]
                              exact HN8'.out t (by omega) h2
                      · have hk3' : (k == 3) = false := by simpa using hk3
                        have hpos2 : pos = (pa : Int) := by have := HPOS.out; rw [if_neg hk3] at this; omega
                        subst hpos2
                        have hclb : pa + cl ≤ ct := by
                          have h1 := HMT.out.1; rw [if_neg hk3] at h1
                          have h2 := HLM1.out; rw [h1, List.length_append, HPA.out, HCL.out] at h2
                          have := HST1.out.1; omega
                        have HS1 : Hid (RawM wi w2.heap.size bm gm gs 53 3 46 (mkM i j rl (preM i ++ (mA ++ (c.take 0 ++ List.replicate (ct + 80 - pa - 0) 0))) (scr :: (preS j ++ (sA ++ List.replicate (st - qa) [])))) sv) := Lib.hid (by simpa using HRI.out)
                        go_upto_region 22 with fail
                        go_loopw [22] (fun v22 wx => ∃ k' : Nat, k' ≤ cl ∧ v22 = .int .i64 k' ∧ RawM wx w2.heap.size bm gm gs 53 3 46 (mkM i j rl (preM i ++ (mA ++ (c.take k' ++ List.replicate (ct + 80 - pa - k') 0))) (scr :: (preS j ++ (sA ++ List.replicate (st - qa) [])))) sv ∧ Blk wx bs 78 #[.string nm, .int .u8 k, .int .i64 len, .int .i64 pa] ∧ Below w2.heap.size w2 wx) (fun v _ => cl - (intOf v).toNat)
                        case atStart => exact ⟨0, Nat.zero_le _, rfl, HS1.out, HKS.out, HBI.out⟩
                        case round =>
                          obtain ⟨k', hk', rfl, hraw, hks, hbr⟩ := hrel
                          have HR9 := Lib.hid hraw; have HKS9 := Lib.hid hks; have HBR9 := Lib.hid hbr
                          have dg := (hbr.cell (p := ⟨g, o + a, none⟩) (by show g < _; omega)).trans d0
                          have z0 : (0 : Int) ≤ (k' : Int) := by omega
                          clear HS1 HRI HKS HBI
                          by_cases hlt2 : k' < cl
                          · have z1 : (k' : Int) < (cl : Int) := by omega
                            obtain ⟨n, hn⟩ : ∃ n, ct + 80 - pa - k' = n + 1 := ⟨ct + 80 - pa - k' - 1, by omega⟩
                            have hn2 : ct + 80 - pa - (k' + 1) = n := by omega
                            obtain ⟨x, hx⟩ : ∃ x, c[k']? = some x := ⟨_, List.getElem?_eq_getElem (by have := HCL.out; omega)⟩
                            have hxe : c[k']'(by have := HCL.out; omega) = x := by have := List.getElem?_eq_getElem (l := c) (i := k') (by have := HCL.out; omega); rw [hx] at this; exact (Option.some.inj this).symm
                            have hctl : (c.take k').length = k' := by rw [List.length_take]; have := HCL.out; omega
                            have es := fill_set3 (preM i) mA (c.take k') 0 x n (i + pa + k') (by rw [preM_length, HPA.out, hctl])
                            rw [← take_snoc hx, ← hn, ← hn2] at es
                            have ES := Lib.hid es
                            obtain ⟨gc, oc, hAc, hgcB, dh0⟩ := HCI.out k' (by have := HCL.out; omega)
                            rw [hxe] at dh0
                            subst hAc
                            have dh := (hbr.cell (p := ⟨gc, oc + k', none⟩) (by show gc < _; omega)).trans dh0
                            have hml : (preM i ++ (mA ++ (c.take k' ++ List.replicate (ct + 80 - pa - k') (0 : Int)))).length = mm := by simp only [List.length_append, preM_length, HPA.out, hctl, List.length_replicate]; omega
                            have cb : wr.cell? ⟨bm, 18, none⟩ = some (.slice (some ⟨gm, 0, none⟩) mm mm) := (hraw.b.cell 18).trans (by rw [List.getElem?_toArray, (mc_get hraw.rl).2.2.2.1]; show some (Value.slice _ (preM i ++ (mA ++ (c.take k' ++ List.replicate (ct + 80 - pa - k') (0 : Int)))).length (preM i ++ (mA ++ (c.take k' ++ List.replicate (ct + 80 - pa - k') (0 : Int)))).length) = _; rw [hml])
                            obtain ⟨y, dy⟩ : ∃ y, wr.cell? ⟨gm, i + pa + k', none⟩ = some y := ⟨_, (hraw.m.cell (i + pa + k')).trans (Array.getElem?_eq_getElem (by rw [List.size_toArray, intCells_length]; show _ < (preM i ++ (mA ++ (c.take k' ++ List.replicate (ct + 80 - pa - k') (0 : Int)))).length; rw [hml]; omega))⟩
                            have fy := hraw.m.frozen (i + pa + k')
                            have ks1 := hks.cell 1; have ks3 := hks.cell 3
                            have zgm := hraw.m.lt; have zbm := hraw.b.lt; have zks := hks.lt
                            have w1' : IntKind.i64.wrap ((i : Int) + (pa : Int)) = (((i + pa : Nat) : Int)) := by rw [show (i : Int) + (pa : Int) = ((i + pa : Nat) : Int) by omega]; exact wrap_small _ (by omega) (by omega)
                            have w2' : IntKind.i64.wrap (((i + pa : Nat) : Int) + (k' : Int)) = ((i + pa + k' : Nat) : Int) := by rw [show ((i + pa : Nat) : Int) + (k' : Int) = ((i + pa + k' : Nat) : Int) by omega]; exact wrap_small _ (by omega) (by omega)
                            obtain ⟨ix1, hix1⟩ : ∃ q, i + pa = q := ⟨_, rfl⟩
                            rw [hix1] at dy fy w1' w2'
                            obtain ⟨ix, hix⟩ : ∃ q, ix1 + k' = q := ⟨_, rfl⟩
                            rw [hix] at dy fy w2'
                            have HIX := Lib.hid hix1; have HIX2 := Lib.hid hix
                            have v1 : (0 : Int) ≤ (ix : Int) := by omega
                            have v2 : (ix : Int) < (mm : Int) := by omega
                            have v3 : ix < mm := by omega
                            have v4 : k' < cl := hlt2
                            clear hraw hks hbr hn hn2 hx hxe hctl es dh0 hml hix1 hix
                            go_upto_region 26 with fail
                            go_region
                            go_wp2_with fail
                            have eix : i + pa + k' = ix := by have := HIX.out; have := HIX2.out; omega
                            have hge := HR9.out.ge
                            have hR := (HR9.out.setM ix x).next ((Below.refl _ _).drew)
                            have hK := (HKS9.out.far (p := ⟨gm, ix, none⟩) (HKS9.out.ne_ HR9.out.m (by decide)) (.int .i64 x)).drew
                            have hB := (HBR9.out.setCell (p := ⟨gm, ix, none⟩) (by exact hge.2.1) (.int .i64 x)).drew
                            exact ⟨⟨k' + 1, by omega, by go_num, by rw [← ES.out, eix]; exact hR, hK, hB⟩, by simp [intOf]; omega⟩
                          · obtain rfl : k' = cl := by omega
                            clear hraw hks hbr
                            go_wp2_with fail
                            refine ⟨?_, by simp [intOf]; omega⟩
                            have ect : c.take k' = c := by rw [← HCL.out]; exact List.take_length
                            have hR := HR9.out
                            have hmt := HMT.out
                            rw [if_neg hk3, if_neg hk3, List.append_nil] at hmt
                            have el : (memL (vs.take (a + 1)) (cs.take (a + 1))).length = pa + k' := by rw [hmt.1, List.length_append, HPA.out, HCL.out]
                            refine ⟨a + 1, sv, by omega, by go_num, ?_, by rw [hmt.2, HQA.out]; exact HN8'.out, HBR9.out⟩
                            rw [ect, show ct + 80 - pa - k' = ct + 80 - (pa + k') by omega] at hR
                            rw [el, hmt.1, hmt.2, HQA.out, List.append_assoc]
                            exact hR
                    · obtain rfl : a = nv := by omega
                      have ev : vs.take a = vs := by rw [← HNV.out]; exact List.take_length
                      have ec : cs.take a = cs := by rw [show a = cs.length by have := HF.out.len; have := HNV.out; omega]; exact List.take_length
                      have elm := memL_length HF.out; have els := stkL_length HF.out
                      rw [HCT.out] at elm; rw [HST.out] at els
                      rw [ev, ec, show ct + 80 - (memL vs cs).length = 80 by omega, show st - (stkL vs cs).length = 0 by omega, List.replicate_zero, List.append_nil, ← HRL.out, ← caseM_eq] at hraw
                      have HRF := Lib.hid hraw
                      have hx12 := (HK12_2.out.next hbr)
                      have HBRF := Lib.hid hbr
                      obtain ⟨cM, hcM⟩ : ∃ cM, caseM vs cs i j regs scr = cM := ⟨_, rfl⟩
                      rw [hcM] at HRF
                      have HCM := Lib.hid hcM
                      clear hraw hnil hbr ev ec elm els hcM
                      have hldm : (Instr.loadAt 53 (.pointer (some ⟨bm, 0, none⟩))).run Tryz.prog wr = .ok (.agg (mcells cM (.slice (some ⟨gm, 0, none⟩) cM.m.length cM.m.length) (.slice (some ⟨gs, 0, none⟩) cM.s.length cM.s.length) (.slice none 0 0) (.slice none 0 0) (.slice none 0 0)).toArray) wr := run_loadAt_mid wr bm 0 53 _ _ (fun j v hv => by rw [Nat.zero_add]; exact (HRF.out.b.cell j).trans (by rw [List.getElem?_toArray]; exact hv)) Tryz.underlying53 rfl (by rw [info_mach25E, mc_len _ _ _ _ _ _ HRF.out.rl])
                      have hlen25 := mc_len cM (.slice (some ⟨gm, 0, none⟩) cM.m.length cM.m.length) (.slice (some ⟨gs, 0, none⟩) cM.s.length cM.s.length) (.slice none 0 0) (.slice none 0 0) (.slice none 0 0) HRF.out.rl
                      have HLD := Lib.hid hldm; have HX12 := Lib.hid hx12; have HL25 := Lib.hid hlen25
                      clear hldm hx12 hlen25
                      go_upto_region 27 with fail
                      refine wp_region_lit ?_
                      refine wpList_load_mid rfl 53 (.tmp 16) rfl bm 0 rfl (mcells cM (.slice (some ⟨gm, 0, none⟩) cM.m.length cM.m.length) (.slice (some ⟨gs, 0, none⟩) cM.s.length cM.s.length) (.slice none 0 0) (.slice none 0 0) (.slice none 0 0)) _ (fun j v hv => by rw [Nat.zero_add]; exact (HRF.out.b.cell j).trans (by rw [List.getElem?_toArray]; exact hv)) (by exact Tryz.underlying53) rfl (by rw [info_mach25E, HL25.out]) ?_
                      refine wpList_store_row rfl 53 (.tmp 12) (.tmp 156) rfl w'.heap.size (mcells cM (.slice (some ⟨gm, 0, none⟩) cM.m.length cM.m.length) (.slice (some ⟨gs, 0, none⟩) cM.s.length cM.s.length) (.slice none 0 0) (.slice none 0 0) (.slice none 0 0)).toArray rfl rfl 53 #[.int .i64 0, .int .i64 0, .int .i64 0, .int .i64 0, .int .i64 0, .int .i64 0, .int .i64 0, .int .i64 0, .int .i64 0, .int .i64 0, .int .i64 0, .int .i64 0, .int .i64 0, .int .i64 0, .int .i64 0, .int .i64 0, .int .i64 0, .int .i64 0, .slice none 0 0, .slice none 0 0, .slice none 0 0, .int .i64 0, .int .i64 0, .slice none 0 0, .slice none 0 0] (show wr.heap[w'.heap.size]? = _ from HX12.out) (by rw [info_mach25E]; simp [HL25.out]) (by simp [HL25.out]) (all_oneCell_toArray (mc_one rfl rfl rfl rfl rfl)) ?_
                      refine wpList_nil ?_
                      rename_i K hK
                      have hF := Fr.setRowE wr w'.heap.size (mcells cM (.slice (some ⟨gm, 0, none⟩) cM.m.length cM.m.length) (.slice (some ⟨gs, 0, none⟩) cM.s.length cM.s.length) (.slice none 0 0) (.slice none 0 0) (.slice none 0 0)).toArray
                      have hz12 : w'.heap.size < w2.heap.size := by have := HK12_2.out.lt; exact this
                      have hK12 : Blk (World.setRow wr w'.heap.size (mcells cM (.slice (some ⟨gm, 0, none⟩) cM.m.length cM.m.length) (.slice (some ⟨gs, 0, none⟩) cM.s.length cM.s.length) (.slice none 0 0) (.slice none 0 0) (.slice none 0 0)).toArray) w'.heap.size 53 (mcells cM (.slice (some ⟨gm, 0, none⟩) cM.m.length cM.m.length) (.slice (some ⟨gs, 0, none⟩) cM.s.length cM.s.length) (.slice none 0 0) (.slice none 0 0) (.slice none 0 0)).toArray := setRow_heap _ _ _ _ _ _ HX12.out
                      have HFZ := Lib.hid hF; have HKZ := Lib.hid hK12
                      clear hF hK12
                      refine hK _ _ ?_
                      clear hK
                      generalize World.setRow wr w'.heap.size (mcells cM (.slice (some ⟨gm, 0, none⟩) cM.m.length cM.m.length) (.slice (some ⟨gs, 0, none⟩) cM.s.length cM.s.length) (.slice none 0 0) (.slice none 0 0) (.slice none 0 0)).toArray = wz at *
                      generalize Value.agg (mcells cM (.slice (some ⟨gm, 0, none⟩) cM.m.length cM.m.length) (.slice (some ⟨gs, 0, none⟩) cM.s.length cM.s.length) (.slice none 0 0) (.slice none 0 0) (.slice none 0 0)).toArray = mv
                      simp only [Act.put]
                      go_wp2_with fail
                      refine bodyPost_ret_by (results_cell_row rfl _ _ w'.heap.size 53 _ _ _ rfl HKZ.out Tryz.underlying53 rfl (by rw [info_mach25E]; simp [HL25.out])) rfl ?_
                      rw [HCM.out]
                      refine ⟨_, _, sv, rfl, (HRF.out.own.fr HFZ.out (fun k hk => by omega)).mono (by omega), ?_⟩
                      exact (HB2.out.trans (HBRF.out.mono (by omega))).trans (HFZ.out.below (by have := HBRF.out.size; omega) (fun k hk => by omega))
end Go.Proofs.YtbijhlgdilkopaaGreatDoor
