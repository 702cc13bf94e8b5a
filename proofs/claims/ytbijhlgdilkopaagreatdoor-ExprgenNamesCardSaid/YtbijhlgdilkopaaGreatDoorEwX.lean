/- Several texts in one: EgMc EgAw. -/
import Derived.Test.YtbijhlgdilkopaaGreatDoorZEgM2
import Derived.Test.YtbijhlgdilkopaaGreatDoorZEgUs
import Derived.Test.YtbijhlgdilkopaaGreatDoorEeX
import Derived.Test.YtbijhlgdilkopaaGreatDoorEcX
import Derived.Test.YtbijhlgdilkopaaGreatDoorCpT
set_option linter.unusedVariables false
set_option linter.unusedSimpArgs false
/- The law's machine. -/
set_option linter.unusedVariables false
set_option linter.unusedSimpArgs false
set_option maxRecDepth 100000
set_option maxHeartbeats 4000000
namespace Bk
open Go Go.RowKit
theorem Kid.up {w : World} {B B' i : Nat} {x y : Nd} (h : Kid w B x i y) (hB : B ≤ B') : Kid w B' x i y := by
  obtain ⟨g, o, h1, h2, h3⟩ := h
  exact ⟨g, o, h1, by omega, h3⟩
theorem EV.up {w : World} {B B' : Nat} {nb : ByteArray → Bool} (hB : B ≤ B') : ∀ (e : Ex) (x : Nd), EV w B nb e x → EV w B' nb e x
  | .num _, x, h => h
  | .var _, x, h => h
  | .top _, x, h => h
  | .size _, x, h => h
  | .item s a, x, h => by
    obtain ⟨h1, h2, h3, h4, h5, y, h6, h7⟩ := h
    exact ⟨h1, h2, h3, h4, h5, y, h6.up hB, EV.up hB a y h7⟩
  | .un op a, x, h => by
    obtain ⟨h1, h2, h3, h4, h5, y, h6, h7⟩ := h
    exact ⟨h1, h2, h3, h4, h5, y, h6.up hB, EV.up hB a y h7⟩
  | .bin op a b, x, h => by
    obtain ⟨h1, h2, h3, h4, h5, y, z, h6, h7, h8, h9⟩ := h
    exact ⟨h1, h2, h3, h4, h5, y, z, h6.up hB, h7.up hB, EV.up hB a y h8, EV.up hB b z h9⟩
theorem KV.up {w : World} {B B' : Nat} (hB : B ≤ B') : ∀ (d : Nat) (x : Nd), KV w B d x → KV w B' d x
  | 0, _, h => h
  | d + 1, x, h => by
    obtain ⟨h1, h2, h3, h4, h5, h6⟩ := h
    exact ⟨h1, h2, h3, h4, h5, fun i hi => let ⟨y, hy, hk⟩ := h6 i hi; ⟨y, hy.up hB, KV.up hB d y hk⟩⟩
end Bk
namespace Go.Proofs.YtbijhlgdilkopaaGreatDoor
open Go.RowKit Bk
theorem e_machine {w : World} {B d : Nat} (hBw : B ≤ w.heap.size) {x : Nd} {V : Option Addr} {nv cv : Nat} {vs : List Vr} {C : Option Addr} {nc cc : Nat} {cs : List (List Int)} {fp sb : Nat} {G : Option Addr} {ng cg : Nat} {regs : List Int} {E : Option Addr} {ne ce : Nat} {scr : List Int} (hc : CaseAt w B d x V nv vs C nc cs G ng regs E ne ce scr)
    (hf : FitS vs cs) (h6 : nv ≤ 6) (hfp : fp ≤ 20) (hsb : sb ≤ 5) (hne : ne ≤ 50) (w' : World) (hb : Below B w w') :
    Calls Tryz.prog 11 #[.agg #[.int .u8 x.k, .int .i64 x.num, .string x.nm, .slice x.A x.n x.cap, .slice V nv cv, .slice C nc cc, .int .i64 fp, .int .i64 sb, .slice G ng cg, .slice E ne ce]] w' fun e w'' => ∃ vm vt sv, e = .returned (.agg (mcells (caseM vs cs fp sb regs scr) vm vt (.slice none 0 0) (.slice none 0 0) (.slice none 0 0)).toArray) ∧ MOwn w'' w'.heap.size (caseM vs cs fp sb regs scr) vm vt (.slice none 0 0) (.slice none 0 0) (.slice none 0 0) sv ∧ Below w'.heap.size w' w'' := by
  have HB := Lib.hid hb
  have HM : Hid (∀ W, Below B w W → Calls Tryz.prog 29 #[.slice V nv cv, .slice C nc cc, .int .i64 fp, .int .i64 sb, .slice G ng cg, .slice E ne ce] W fun e w'' => ∃ vm vt sv, e = .returned (.agg (mcells (caseM vs cs fp sb regs scr) vm vt (.slice none 0 0) (.slice none 0 0) (.slice none 0 0)).toArray) ∧ MOwn w'' W.heap.size (caseM vs cs fp sb regs scr) vm vt (.slice none 0 0) (.slice none 0 0) (.slice none 0 0) sv ∧ Below W.heap.size W w'') :=
    Lib.hid fun W hW => e_Machine hBw V nv cv vs hc.v hc.vn C nc cc cs hc.c hc.cn hf h6 fp sb hfp hsb G ng cg regs hc.g hc.gn E ne ce scr hc.e hc.en hne W hW
  obtain ⟨cM, hcM⟩ : ∃ cM, caseM vs cs fp sb regs scr = cM := ⟨_, rfl⟩
  rw [hcM] at HM ⊢
  clear hb hc hf hcM
  obtain ⟨k, num, nm, A, n, cap⟩ := x
  dsimp only at *
  go_enter Tryz.func11, Tryz.ntmps11
  go_upto_region 1 with fail
  refine wp_nameE ?_
  intro w1 hw1
  have hb1 : Below w'.heap.size w' w1 := by rw [hw1]; exact (by go_grown)
  have K1 : Blk w1 w'.heap.size 49 #[.int .u8 k, .int .i64 num, .string nm, .slice A n cap, .slice V nv cv, .slice C nc cc, .int .i64 fp, .int .i64 sb, .slice G ng cg, .slice E ne ce] := by rw [hw1]; exact (by repeat' (first | assumption | exact Blk.new' (by simp) _ _ | apply Blk.alloc | apply Blk.drew))
  have K2 : Blk w1 (w'.heap.size + 1) 53 #[.int .i64 0, .int .i64 0, .int .i64 0, .int .i64 0, .int .i64 0, .int .i64 0, .int .i64 0, .int .i64 0, .int .i64 0, .int .i64 0, .int .i64 0, .int .i64 0, .int .i64 0, .int .i64 0, .int .i64 0, .int .i64 0, .int .i64 0, .int .i64 0, .slice none 0 0, .slice none 0 0, .slice none 0 0, .int .i64 0, .int .i64 0, .slice none 0 0, .slice none 0 0] := by rw [hw1]; exact Blk.new' (by simp) _ _
  have HK2 := Lib.hid K2; have HB1 := Lib.hid hb1
  have z12 : w'.heap.size + 1 < w1.heap.size := K2.lt
  clear hw1 hb1 K2
  obtain ⟨z_1, T_1, F_1⟩ := K1.open_
  clear K1
  go_wp2_with fail
  refine (HM.out w1 (HB.out.trans (HB1.out.mono (by have := HB.out.size; omega)))).mono ?_
  rintro en w2 ⟨vm, vt, sv, rfl, ho, hb2⟩
  have HO := Lib.hid ho; have HB2 := Lib.hid hb2
  have HL25 := Lib.hid (mc_len cM vm vt (.slice none 0 0) (.slice none 0 0) (.slice none 0 0) ho.1)
  have HOV := Lib.hid (show vm.oneCell' = true ∧ vt.oneCell' = true from ⟨by obtain ⟨_, _, e, _⟩ := ho.mls.m; subst e; rfl, by obtain ⟨_, _, e, _⟩ := ho.mls.s; subst e; rfl⟩)
  clear T_1 z_1 F_1 ho hb2
  go_wp2_with (refine wpList_store_row rfl 53 (.tmp 2) (.tmp 15) rfl (w'.heap.size + 1) _ rfl rfl 53 #[.int .i64 0, .int .i64 0, .int .i64 0, .int .i64 0, .int .i64 0, .int .i64 0, .int .i64 0, .int .i64 0, .int .i64 0, .int .i64 0, .int .i64 0, .int .i64 0, .int .i64 0, .int .i64 0, .int .i64 0, .int .i64 0, .int .i64 0, .int .i64 0, .slice none 0 0, .slice none 0 0, .slice none 0 0, .int .i64 0, .int .i64 0, .slice none 0 0, .slice none 0 0] (show w2.heap[w'.heap.size + 1]? = _ from HK2.out.next HB2.out) (by rw [info_mach25E]; simp [HL25.out]) (by simp [HL25.out]) (all_oneCell_toArray (mc_one HOV.out.1 HOV.out.2 rfl rfl rfl)) ?_)
  have hF := Fr.setRowE w2 (w'.heap.size + 1) (mcells cM vm vt (.slice none 0 0) (.slice none 0 0) (.slice none 0 0)).toArray
  have hK : Blk (World.setRow w2 (w'.heap.size + 1) (mcells cM vm vt (.slice none 0 0) (.slice none 0 0) (.slice none 0 0)).toArray) (w'.heap.size + 1) 53 (mcells cM vm vt (.slice none 0 0) (.slice none 0 0) (.slice none 0 0)).toArray := setRow_heap _ _ _ _ _ _ (HK2.out.next HB2.out)
  refine bodyPost_ret_by (results_cell_row rfl _ _ (w'.heap.size + 1) 53 _ _ _ rfl hK Tryz.underlying53 rfl (by rw [info_mach25E]; simp [HL25.out])) rfl ?_
  have hz := HB1.out.size
  refine ⟨vm, vt, sv, rfl, (HO.out.fr hF (fun k hk => by omega)).mono (by omega), ?_⟩
  exact (HB1.out.next HB2.out).trans (hF.below (by have := HB2.out.size; omega) (fun k hk => by omega))
end Go.Proofs.YtbijhlgdilkopaaGreatDoor

/- The law's awake: x + 1 is computed. Printed by gen_egaw.py. -/
set_option linter.unusedVariables false
set_option linter.unusedSimpArgs false
set_option maxRecDepth 100000
set_option maxHeartbeats 4000000
namespace Bk
open Go Go.RowKit
theorem Rd.ofOwnB {w : World} {base n : Nat} {A : Option Addr} {cap : Nat} {t : TypeId} {xs : List Value} (h : w.ownsRow base t 5 (.slice A n cap) n xs) : Rd w (fun k => base ≤ k ∧ k < w.heap.size) 5 A n xs := by
  have hx : xs.length = n * 5 := h.1
  refine ⟨hx, fun h0 => ?_⟩
  obtain ⟨g', cap', ev, q1, q2, _, _, q3⟩ := own_some h h0
  injection ev with ev _ _
  exact ⟨g', 0, ev, ⟨q1, q2⟩, fun j u hu => by rw [Nat.zero_add]; exact q3 j u hu⟩
/-- The memory of the case x + 1. -/
theorem case0 {w : World} {b0 b1 b2 b3 b4 : Nat} {t0 t1 t2 t3 t4 : TypeId} (h0 : Blk w b0 t0 #[.int .u8 2, .int .i64 0, .string ⟨#[120]⟩, .slice none 0 0, .int .u8 1, .int .i64 1, .string ⟨#[]⟩, .slice none 0 0]) (h1 : Blk w b1 t1 #[.string ⟨#[120]⟩, .int .u8 1, .int .i64 0]) (h2 : Blk w b2 t2 #[.int .i64 4]) (h3 : Blk w b3 t3 #[.slice (some ⟨b2, 0, none⟩) 1 1]) (h4 : Blk w b4 t4 #[.int .i64 9])
    {nb : ByteArray → Bool} (hnb : nb ⟨#[120]⟩ = true) :
    CaseAt w w.heap.size 2 ⟨8, 0, ⟨#[]⟩, some ⟨b0, 0, none⟩, 2, 2⟩ (some ⟨b1, 0, none⟩) 1 vs0 (some ⟨b3, 0, none⟩) 1 [[4]] none 0 [] (some ⟨b4, 0, none⟩) 1 1 [9] ∧ EV w w.heap.size nb ex0 ⟨8, 0, ⟨#[]⟩, some ⟨b0, 0, none⟩, 2, 2⟩ := by
  have k0 : Kid w w.heap.size ⟨8, 0, ⟨#[]⟩, some ⟨b0, 0, none⟩, 2, 2⟩ 0 ⟨2, 0, ⟨#[120]⟩, none, 0, 0⟩ := ⟨b0, 0, rfl, h0.lt, fun j v hv => by
    rw [h0.cell]
    match j, hv with
    | 0, hv => exact hv
    | 1, hv => exact hv
    | 2, hv => exact hv
    | 3, hv => exact hv⟩
  have k1 : Kid w w.heap.size ⟨8, 0, ⟨#[]⟩, some ⟨b0, 0, none⟩, 2, 2⟩ 1 ⟨1, 1, ⟨#[]⟩, none, 0, 0⟩ := ⟨b0, 0, rfl, h0.lt, fun j v hv => by
    rw [h0.cell]
    match j, hv with
    | 0, hv => exact hv
    | 1, hv => exact hv
    | 2, hv => exact hv
    | 3, hv => exact hv⟩
  refine ⟨⟨⟨by simp, by simp, by simp, by simp [maxLen], (fun e => by cases e), fun i hi => ?_⟩, ?_, rfl, ?_, rfl, ?_, ?_, rfl, ?_, ?_, rfl, ?_⟩, ?_⟩
  · match i, hi with
    | 0, _ => exact ⟨_, k0, by decide, by decide, by decide, by decide, fun _ => rfl, fun i hi => absurd hi (Nat.not_lt_zero _)⟩
    | 1, _ => exact ⟨_, k1, by decide, by decide, by decide, by decide, fun _ => rfl, fun i hi => absurd hi (Nat.not_lt_zero _)⟩
  · intro i v hv
    match i, hv with
    | 0, hv =>
      simp only [vs0, List.getElem?_cons_zero, Option.some.injEq] at hv
      subst hv
      exact ⟨b1, 0, rfl, h1.lt, h1.cell 0, h1.cell 1, h1.cell 2⟩
  · intro i c hc
    match i, hc with
    | 0, hc =>
      simp only [List.getElem?_cons_zero, Option.some.injEq] at hc
      subst hc
      exact ⟨b3, 0, some ⟨b2, 0, none⟩, 1, rfl, h3.lt, h3.cell 0, by decide, (fun e => by cases e), fun i hi => by
        match i, hi with
        | 0, _ => exact ⟨b2, 0, rfl, h2.lt, h2.cell 0⟩⟩
  · intro c hc x hx
    simp only [List.mem_cons, List.not_mem_nil, or_false] at hc
    subst hc
    simp only [List.mem_cons, List.not_mem_nil, or_false] at hx
    subst hx; unfold I64; omega
  · intro i hi; exact absurd hi (Nat.not_lt_zero _)
  · intro y hy; cases hy
  · exact ⟨_, 1, rfl, Nat.le_refl _, (fun e => by cases e), rfl, fun _ => ⟨b4, 0, rfl, h4.lt, fun j u hu => by
      match j, hu with
      | 0, hu => exact (h4.cell 0).trans hu⟩⟩
  · intro y hy
    simp only [List.mem_cons, List.not_mem_nil, or_false] at hy
    subst hy; unfold I64; omega
  · exact ⟨rfl, by decide, rfl, by show (⟨#[]⟩ : ByteArray).toList.isEmpty = true; decide +kernel, rfl, _, _, k0, k1, ⟨rfl, rfl, rfl, hnb, rfl⟩, ⟨rfl, rfl, by decide, by decide +kernel, rfl⟩⟩
/-- What the machine is behind the run. -/
theorem run0 : seqX (comp (slotsL vs0 0 0) (cellsOf vs0) ex0 0) (caseM vs0 [[4]] 0 0 [] [9]) = (0, (caseM vs0 [[4]] 0 0 [] [9]).setS 0 [9, 4, 1, 5]) := by
  have g := case_good fits0 dist0 (by intro c hc x hx; simp at hc; subst hc; simp at hx; subst hx; unfold I64; omega) 0 0 (by omega) (by omega) (by decide) [] [9] (by intro x hx; cases hx) (by intro x hx; simp at hx; subst hx; unfold I64; omega)
  have h := (g.run (e := ex0) (known_held known0) ok0.nums (by decide)).2 (by decide +kernel)
  rw [h]
  have e1 : pushE (lookV vs0 [[4]]) ex0 = [4, 1] := by decide +kernel
  have e2 : (evalE (lookV vs0 [[4]]) ex0).1 = 5 := by decide +kernel
  rw [e1, e2]; rfl
theorem line0 : Line (comp (slotsL vs0 0 0) (cellsOf vs0) ex0 0) := comp_line (slots_ok fits0) (by decide) ex0 0 (known_held known0) ok0 (by omega) (by decide)
end Bk
namespace Go.Proofs.YtbijhlgdilkopaaGreatDoor
open Go.RowKit Bk
theorem name0 : nameB ⟨#[120]⟩ = true := by decide +kernel
theorem e_awake (w : World) (hT : TableAt w) : Calls Tryz.prog 4 #[] w fun e w' => e = .returned (.bool true) ∧ Below w.heap.size w w' := by
  have HT := Lib.hid hT
  clear hT
  go_enter Tryz.func4, Tryz.ntmps4
  go_upto_region 2 with fail
  refine wp_nameE ?_
  intro w1 hw1
  have hb1 : Below w.heap.size w w1 := by rw [hw1]; exact (by go_grown)
  have k0 : Blk w1 w.heap.size 24 #[.int .u8 2, .int .i64 0, .string ⟨#[120]⟩, .slice none 0 0, .int .u8 1, .int .i64 1, .string ⟨#[]⟩, .slice none 0 0] := by rw [hw1]; exact (by repeat' (first | assumption | exact Blk.new' (by simp) _ _ | apply Blk.alloc | apply Blk.drew))
  have k1 : Blk w1 (w.heap.size + 1) 45 #[.string ⟨#[120]⟩, .int .u8 1, .int .i64 0] := by rw [hw1]; exact (by repeat' (first | assumption | exact Blk.new' (by simp) _ _ | apply Blk.alloc | apply Blk.drew))
  have k2 : Blk w1 (w.heap.size + 1 + 1) 3 #[.int .i64 4] := by rw [hw1]; exact (by repeat' (first | assumption | exact Blk.new' (by simp) _ _ | apply Blk.alloc | apply Blk.drew))
  have k3 : Blk w1 (w.heap.size + 1 + 1 + 1) 46 #[.slice (some ⟨w.heap.size + 1 + 1, 0, none⟩) 1 1] := by rw [hw1]; exact (by repeat' (first | assumption | exact Blk.new' (by simp) _ _ | apply Blk.alloc | apply Blk.drew))
  have k4 : Blk w1 (w.heap.size + 1 + 1 + 1 + 1) 3 #[.int .i64 9] := by rw [hw1]; exact (by repeat' (first | assumption | exact Blk.new' (by simp) _ _ | apply Blk.alloc | apply Blk.drew))
  have k5 : Blk w1 (w.heap.size + 1 + 1 + 1 + 1 + 1) 49 #[.int .u8 8, .int .i64 0, .string ⟨#[]⟩, .slice (some ⟨w.heap.size, 0, none⟩) 2 2, .slice (some ⟨w.heap.size + 1, 0, none⟩) 1 1, .slice (some ⟨w.heap.size + 1 + 1 + 1, 0, none⟩) 1 1, .int .i64 0, .int .i64 0, .slice none 0 0, .slice (some ⟨w.heap.size + 1 + 1 + 1 + 1, 0, none⟩) 1 1] := by rw [hw1]; exact (by repeat' (first | assumption | exact Blk.new' (by simp) _ _ | apply Blk.alloc | apply Blk.drew))
  obtain ⟨hca, hev⟩ := case0 k0 k1 k2 k3 k4 name0
  have HCA := Lib.hid hca; have HEV := Lib.hid hev; have HKC := Lib.hid k5; have HB1 := Lib.hid hb1
  have hz1 : w.heap.size < w1.heap.size := k0.lt
  clear hw1 hb1 k0 k1 k2 k3 k4 hca hev
  obtain ⟨z_1, T_1, F_1⟩ := k5.open_
  clear k5
  have HMC : Hid (Calls Tryz.prog 11 #[.agg #[.int .u8 8, .int .i64 0, .string ⟨#[]⟩, .slice (some ⟨w.heap.size, 0, none⟩) 2 2, .slice (some ⟨w.heap.size + 1, 0, none⟩) 1 1, .slice (some ⟨w.heap.size + 1 + 1 + 1, 0, none⟩) 1 1, .int .i64 0, .int .i64 0, .slice none 0 0, .slice (some ⟨w.heap.size + 1 + 1 + 1 + 1, 0, none⟩) 1 1]] w1 fun e w'' => ∃ vm vt sv, e = .returned (.agg (mcells (caseM vs0 [[4]] 0 0 [] [9]) vm vt (.slice none 0 0) (.slice none 0 0) (.slice none 0 0)).toArray) ∧ MOwn w'' w1.heap.size (caseM vs0 [[4]] 0 0 [] [9]) vm vt (.slice none 0 0) (.slice none 0 0) (.slice none 0 0) sv ∧ Below w1.heap.size w1 w'') :=
    Lib.hid (e_machine (w := w1) (Nat.le_refl _) (fp := 0) (sb := 0) HCA.out fits0 (by decide) (by decide) (by decide) (by decide) w1 (Below.refl _ _))
  obtain ⟨M0, hM0⟩ : ∃ M0, caseM vs0 [[4]] 0 0 [] [9] = M0 := ⟨_, rfl⟩
  rw [hM0] at HMC
  have HM0 := Lib.hid hM0
  clear hM0
  go_wp2_with fail
  refine HMC.out.mono ?_
  rintro en w2 ⟨vm, vt, sv, rfl, ho, hb2⟩
  have HO := Lib.hid ho
  have HL25 := Lib.hid (mc_len M0 vm vt (.slice none 0 0) (.slice none 0 0) (.slice none 0 0) ho.1)
  have HOV := Lib.hid (show vm.oneCell' = true ∧ vt.oneCell' = true from ⟨by obtain ⟨_, _, e, _⟩ := ho.mls.m; subst e; rfl, by obtain ⟨_, _, e, _⟩ := ho.mls.s; subst e; rfl⟩)
  have HB2 := Lib.hid hb2; have HKC2 := Lib.hid (HKC.out.next hb2)
  clear T_1 z_1 F_1 ho hb2 HMC HKC
  go_upto_region 3 with (refine wpList_store_row rfl 53 (.tmp 2) (.tmp 17) rfl w2.heap.size _ rfl rfl 53 #[.int .i64 0, .int .i64 0, .int .i64 0, .int .i64 0, .int .i64 0, .int .i64 0, .int .i64 0, .int .i64 0, .int .i64 0, .int .i64 0, .int .i64 0, .int .i64 0, .int .i64 0, .int .i64 0, .int .i64 0, .int .i64 0, .int .i64 0, .int .i64 0, .slice none 0 0, .slice none 0 0, .slice none 0 0, .int .i64 0, .int .i64 0, .slice none 0 0, .slice none 0 0] (heap_alloc_new w2 _) (by rw [info_mach25E]; simp [HL25.out]) (by simp [HL25.out]) (all_oneCell_toArray (mc_one HOV.out.1 HOV.out.2 rfl rfl rfl)) ?_; (try simp only [Act.put, Bk.PU]))
  refine wp_nameE ?_
  intro w3 hw3
  rw [World.setRow_alloc_new] at hw3
  have hb3 : Below w2.heap.size w2 w3 := by rw [hw3]; exact (by go_grown)
  have KM : Blk w3 w2.heap.size 53 (mcells M0 vm vt (.slice none 0 0) (.slice none 0 0) (.slice none 0 0)).toArray := by rw [hw3]; exact Blk.new _ _ _
  obtain ⟨gm, gs, q1, q2, q3, q4, hm3⟩ := HO.out.on w3 hb3 KM (.inr (Nat.le_refl _))
  have HM := Lib.hid hm3.mat
  have HKC3 := Lib.hid (HKC2.out.next hb3)
  have HB13 := Lib.hid (HB2.out.next hb3)
  have HZ13 := Lib.hid (show w1.heap.size ≤ w3.heap.size from HB13.out.size)
  have hz3 : w2.heap.size < w3.heap.size := KM.lt
  have hz2 : w1.heap.size ≤ w2.heap.size := HB2.out.size
  clear hw3 hb3 KM hm3 HO HL25 HOV HKC2
  obtain ⟨l0, hl0⟩ : ∃ l0, comp (slotsL vs0 0 0) (cellsOf vs0) ex0 0 = l0 := ⟨_, rfl⟩
  have hln := comp_length (slotsL vs0 0 0) (cellsOf vs0) ex0 0
  rw [hl0] at hln
  have hln2 : l0.length ≤ 24 := hln
  obtain ⟨n0, hn0⟩ : ∃ n0, l0.length = n0 := ⟨_, rfl⟩
  rw [hn0] at hln2
  have HL0 := Lib.hid hl0; have HN0 := Lib.hid hn0
  have hsl0 := slotsL_length vs0 0 0
  have HCOM : Hid (∀ wf, Below w3.heap.size w3 wf → ∀ Au cu, SlotsAt wf wf.heap.size Au (slotsL vs0 0 0) → Calls Tryz.prog 9 #[.agg #[.int .u8 8, .int .i64 0, .string ⟨#[]⟩, .slice (some ⟨w.heap.size, 0, none⟩) 2 2], .agg #[.slice Au 1 cu, .int .i64 (cellsOf vs0), .int .i64 (stksOf vs0)]] wf fun en w'' => ∃ v, en = .returned (.tuple #[v, .int .i64 0]) ∧ w''.ownsRow wf.heap.size 102 5 v n0 (codeCells l0) ∧ Below wf.heap.size wf w'') := Lib.hid fun wf hwf Au cu hsl => by
    have hbb := HB13.out.trans (hwf.mono HZ13.out)
    have h := e_Compute (w := wf) (B := wf.heap.size) (d := 2) (Nat.le_refl _) (F := Au) (nf := 1) (cf := cu) (cc := cellsOf vs0) (ss := stksOf vs0) (by decide) (by decide) (slotsL vs0 0 0) hsl rfl (by decide) ex0 (known_held known0) (by decide) (⟨8, 0, ⟨#[]⟩, some ⟨w.heap.size, 0, none⟩, 2, 2⟩ : Nd) (EV.up hbb.size _ _ (HEV.out.next hbb)) (KV.up hbb.size _ _ (HCA.out.kv.next hbb)) (by decide) wf (Below.refl _ _)
    rw [HL0.out, HN0.out] at h
    exact h
  have HLI : Hid (Line l0) := Lib.hid (by rw [← HL0.out]; exact line0)
  have HSQ : Hid (seqX l0 M0 = (0, M0.setS 0 [9, 4, 1, 5])) := Lib.hid (by rw [← HL0.out, ← HM0.out]; exact run0)
  have HRU : Hid (Runs M0 n0) := Lib.hid (by rw [← HM0.out]; exact case_runs fits0 (by intro c hc x hx; simp at hc; subst hc; simp at hx; subst hx; unfold I64; omega) 0 0 (by omega) (by omega) (by decide) [] [9] (by intro x hx; cases hx) (by intro x hx; simp at hx; subst hx; unfold I64; omega) (by decide) (by omega))
  clear hl0 hn0 hln hsl0
  refine wp_region_held_drew (S := fun W => Below w3.heap.size w3 W) (by kernel_rfl) ((Below.refl _ _).drew) (fun hH => ?_)
  refine wpAnyH_take (i := 0) (v := ?_) rfl (by kernel_rfl) (by kernel_rfl) (by kernel_rfl) (fun _ _ _ h => h) (Or.inl ⟨by rfl, ?hy⟩) hH ?_
  case hy => (intro w9_ hS9; clear hS9; go_simp; try with_reducible rfl)
  (try simp only [Bk.PU, Act.put])
  refine wpAnyH_take (i := 1) (v := ?_) rfl (by kernel_rfl) (by kernel_rfl) (by kernel_rfl) (fun _ _ _ h => h) (Or.inl ⟨by rfl, ?hy⟩) hH ?_
  case hy => (intro w9_ hS9; have t := (HKC3.out.next hS9).cell; clear hS9; go_simp; try with_reducible rfl)
  (try simp only [Bk.PU, Act.put])
  refine wpAnyH_take (i := 2) (v := ?_) rfl (by kernel_rfl) (by kernel_rfl) (by kernel_rfl) (fun _ _ _ h => h) (Or.inl ⟨by rfl, ?hy⟩) hH ?_
  case hy => (intro w9_ hS9; clear hS9; go_simp; try with_reducible rfl)
  (try simp only [Bk.PU, Act.put])
  refine wpAnyH_take (i := 3) (v := ?_) rfl (by kernel_rfl) (by kernel_rfl) (by kernel_rfl) (fun _ _ _ h => h) (Or.inl ⟨by rfl, ?hy⟩) hH ?_
  case hy => (intro w9_ hS9; have t := (HKC3.out.next hS9).cell; clear hS9; go_simp; try with_reducible rfl)
  (try simp only [Bk.PU, Act.put])
  refine wpAnyH_ready (rs := [4]) (by kernel_rfl) (by simp) ?_
  refine AllReadyH.cons rfl (fun K hK => ?_) (AllReadyH.nil)
  go_simp
  refine (e_frame (w := w1) (B := w1.heap.size) (Nat.le_refl _) (some ⟨w.heap.size + 1, 0, none⟩) 1 1 vs0 HCA.out.v rfl (by decide) fits0.ok _ (HB13.out.trans (hH.mono HZ13.out))).mono ?_
  rintro en wf ⟨u, rfl, hown, hbf⟩
  have hXf := hH.next hbf
  obtain ⟨Au, cu, rfl⟩ := own_form hown
  have HSLO := Lib.hid (SlotsAt.own hown)
  have HXF := Lib.hid hXf
  clear hown hbf
  refine hK.out _ _ hXf (fun hH => ?_)
  clear hH
  have hH := HXF.out
  clear hXf
  clear hK
  (try simp only [Bk.PU, Act.put])
  refine wpAnyH_ready (rs := [5]) (by kernel_rfl) (by simp) ?_
  refine AllReadyH.cons rfl (fun K hK => ?_) (AllReadyH.nil)
  go_simp
  refine (HCOM.out wf HXF.out Au cu HSLO.out).mono ?_
  rintro en w4 ⟨v, rfl, hown, hbc⟩
  have hX4 := HXF.out.next hbc
  obtain ⟨Ac, cc, rfl⟩ := own_form hown
  have HOW := Lib.hid hown
  have HX4 := Lib.hid hX4
  clear hown hbc
  refine hK.out _ _ hX4 (fun hH => ?_)
  clear hH
  have hH := HX4.out
  clear hX4
  clear hK
  (try simp only [Bk.PU, Act.put])
  refine wpAnyH_take (i := 6) (v := ?_) rfl (by kernel_rfl) (by kernel_rfl) (by kernel_rfl) (fun _ _ _ h => h) (Or.inl ⟨by rfl, ?hy⟩) hH ?_
  case hy => (intro w9_ hS9; clear hS9; go_simp; try with_reducible rfl)
  (try simp only [Bk.PU, Act.put])
  refine wpAnyH_take (i := 7) (v := ?_) rfl (by kernel_rfl) (by kernel_rfl) (by kernel_rfl) (fun _ _ _ h => h) (Or.inl ⟨by rfl, ?hy⟩) hH ?_
  case hy => (intro w9_ hS9; clear hS9; go_simp; try with_reducible rfl)
  (try simp only [Bk.PU, Act.put])
  refine wpAnyH_take (i := 8) (v := ?_) rfl (by kernel_rfl) (by kernel_rfl) (by kernel_rfl) (fun _ _ _ h => h) (Or.inl ⟨by rfl, ?hy⟩) hH ?_
  case hy => (intro w9_ hS9; clear hS9; go_simp; try with_reducible rfl)
  (try simp only [Bk.PU, Act.put])
  refine wpAnyH_take (i := 9) (v := ?_) rfl (by kernel_rfl) (by kernel_rfl) (by kernel_rfl) (fun _ _ _ h => h) (Or.inl ⟨by rfl, ?hy⟩) hH ?_
  case hy => (intro w9_ hS9; clear hS9; go_simp; try with_reducible rfl)
  (try simp only [Bk.PU, Act.put])
  refine wpAnyH_take (i := 10) (v := ?_) rfl (by kernel_rfl) (by kernel_rfl) (by kernel_rfl) (fun _ _ _ h => h) (Or.inl ⟨by rfl, ?hy⟩) hH ?_
  case hy => (intro w9_ hS9; clear hS9; go_simp; try with_reducible rfl)
  (try simp only [Bk.PU, Act.put])
  refine wpAnyH_done (by kernel_rfl) ?_ _
  go_wp2_with fail
  have hRC := Rd.ofOwnB HOW.out
  have hsz4 := HX4.out.size
  have hEnv : Env w4 ⟨w2.heap.size, 53, [], [], 0, gm, gs, (· < w1.heap.size)⟩ Ac n0 l0 := by
    refine ⟨hRC.mono fun k hk => ⟨hk.2, ?_⟩, HLI.out.wf, HT.out.next ((HB1.out.next HB13.out).next HX4.out), ?_, by have := HN0.out; omega⟩
    · have := HXF.out.size
      rintro (e | e | e) <;> (dsimp only at e; omega)
    · have := HT.out.lt
      rintro (e | e | e) <;> (dsimp only at e; omega)
  have hrun := e_run (HM.out.next HX4.out) cc hEnv HLI.out HRU.out
  rw [HSQ.out] at hrun
  have HRUN := Lib.hid hrun
  clear hRC hEnv hrun
  refine HRUN.out.mono ?_
  rintro en w5 ⟨rfl, hm5, hf5⟩
  have hm5 := hm5 rfl
  obtain ⟨vm5, vs5, vc5, vi5, vo5, sv5, h5⟩ := hm5
  have hfin : Below w.heap.size w w5 := ((HB1.out.next HB13.out).next HX4.out).trans (hf5.below (by have := HB1.out.size; omega) (fun k hk => by rcases hk with e | e | e <;> (dsimp only at e; omega)))
  have hMs : ((M0.setS 0 [9, 4, 1, 5]).at_ 0 1).s.length = 1 := by rw [← HM0.out]; rfl
  have hMm : ((M0.setS 0 [9, 4, 1, 5]).at_ 0 1).m = 4 :: List.replicate 80 0 := by rw [← HM0.out]; rfl
  have hMk : ((M0.setS 0 [9, 4, 1, 5]).at_ 0 1).stk (0 : Nat) = [9, 4, 1, 5] := by rw [← HM0.out]; rfl
  obtain ⟨n5, cap5, evs, hn5, A5, c5, hc5, _, _, hR5, _⟩ := h5.sv 0 (by rw [hMs]; decide)
  rw [hMk] at hc5 hR5
  rw [hMs] at hn5
  subst hn5
  obtain ⟨bs5, os5, rfl, _, hcells⟩ := hR5.2 (by decide)
  have d0 := hcells 0 _ rfl
  have d3 := hcells 3 _ rfl
  have e19 := h5.c19
  rw [evs] at e19
  have hrow := h5.m
  rw [hMm] at hrow
  obtain ⟨capm, evm, _, hmc, _⟩ := hrow.form (by decide)
  have e18 := h5.c18
  rw [evm] at e18
  have em := hmc 0 _ rfl
  have HFIN := Lib.hid hfin
  rw [Nat.add_zero] at d0
  dsimp only [Pl.b, Pl.off] at e18 e19 hc5 em
  rw [Nat.zero_add] at e18 e19
  rw [show (intCells (4 :: List.replicate 80 0)).length = 81 by decide] at e18
  have hl4 : ([9, 4, 1, 5] : List Int).length = 4 := rfl
  rw [hl4] at hc5
  clear hfin hMs hMm hMk evs hR5 hcells hrow evm hmc hf5 h5 hl4
  go_wp2_with fail
  go_ret
  exact ⟨rfl, HFIN.out⟩
end Go.Proofs.YtbijhlgdilkopaaGreatDoor
