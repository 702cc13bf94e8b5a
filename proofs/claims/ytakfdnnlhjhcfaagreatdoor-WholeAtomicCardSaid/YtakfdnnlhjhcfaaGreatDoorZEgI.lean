/- ast.IsExpr: whether a node reads as an expression. -/
import Derived.Test.YtakfdnnlhjhcfaaGreatDoorM2
set_option linter.unusedVariables false
set_option linter.unusedSimpArgs false
set_option maxRecDepth 100000
set_option maxHeartbeats 4000000
namespace Bk
open Go Go.RowKit
def IsE (w : World) (B : Nat) (nb : ByteArray → Bool) (x : Nd) : Prop := ∃ e, EV w B nb e x
end Bk
namespace Go.Proofs.YtakfdnnlhjhcfaaGreatDoor
open Go.RowKit Bk
theorem wp_nameE {Q : Program} {c : Code} {R : Exit → Act → World → Prop} {a : Act} {w : World} (h : ∀ w', w' = w → c.wp Q R a w') : c.wp Q R a w := h w rfl
def IsExprAt (w : World) (B d : Nat) : Prop := ∀ x, KV w B d x → ∀ w', Below B w w' → ∀ r : Bool, (r = true ↔ IsE w B nameB x) → Calls Tryz.prog 122 #[.agg #[.int .u8 x.k, .int .i64 x.num, .string x.nm, .slice x.A x.n x.cap]] w' fun e w'' => e = .returned (.bool r) ∧ Below w'.heap.size w' w''
theorem e_kids {w : World} {B d : Nat} (hBw : B ≤ w.heap.size) (IH : IsExprAt w B d) (x : Nd) (hx : KV w B (d + 1) x) (w' : World) (hb : Below B w w') (h m : Nat) (t : TypeId) (fs : Array Value) (hf : Blk w' h t fs) (hm : fs.size = m) (hm2 : m ≤ 2) (hfs : ∀ i, i < m → fs[i]? = some (.func (.func 122) #[] #[])) (r : Bool) (hr : r = true ↔ x.n = m ∧ ∀ i, i < m → ∃ y, Kid w B x i y ∧ IsE w B nameB y) :
    Calls Tryz.prog 120 #[.agg #[.int .u8 x.k, .int .i64 x.num, .string x.nm, .slice x.A x.n x.cap], .slice (some ⟨h, 0, none⟩) m m] w' fun e w'' => e = .returned (.bool r) ∧ Below w'.heap.size w' w'' := by
  obtain ⟨⟨hk0, hk1⟩, hnum, hcap, hmax, hA, hkid⟩ := hx
  obtain ⟨k, num, nm, A, n, cap⟩ := x
  have HK := Lib.hid hkid; have HB := Lib.hid hb; have HF := Lib.hid hf; have HFS := Lib.hid hfs; have HR := Lib.hid hr; have HIH := Lib.hid IH
  have hlt := hf.lt
  clear hkid hb hf hfs hr IH hA hnum
  dsimp only at *
  by_cases hn : n = m
  rotate_left
  · obtain rfl : r = false := by cases r with | false => rfl | true => exact absurd (HR.out.1 rfl).1 hn
    have hn' : ((n : Int) != (m : Int)) = true := by simp; omega
    go_enter Tryz.func120, Tryz.ntmps120
    go_wp2_with fail
    go_ret
    exact ⟨rfl, by go_grown⟩
  have hn' : ((n : Int) != (m : Int)) = false := by simp; omega
  have HN := Lib.hid hn
  clear hn
  go_enter Tryz.func120, Tryz.ntmps120
  go_upto_region 1 with fail
  refine wp_nameE ?_
  intro w1 hw1
  have hB1 : Below w'.heap.size w' w1 := by rw [hw1]; exact (by go_grown)
  have K1 : Blk w1 w'.heap.size 26 #[.int .u8 k, .int .i64 num, .string nm, .slice A n cap] := by rw [hw1]; exact (by repeat' (first | assumption | exact Blk.new' (by simp) _ _ | apply Blk.alloc | apply Blk.drew))
  clear hw1
  obtain ⟨z_1, T_1, F_1⟩ := K1.open_; have H_1 := Lib.hid K1; clear K1
  go_wp2_with fail
  clear T_1 z_1 F_1
  go_loopw [15] (fun v15 wr => ∃ j : Nat, j ≤ m ∧ v15 = .int .i64 j ∧ (∀ i, i < j → ∃ y, Kid w B ⟨k, num, nm, A, n, cap⟩ i y ∧ IsE w B nameB y) ∧ Below w1.heap.size w1 wr) (fun v _ => m - (intOf v).toNat)
  case atStart => exact ⟨0, Nat.zero_le _, rfl, fun i hi => absurd hi (Nat.not_lt_zero _), Below.refl _ _⟩
  case round =>
    obtain ⟨j, hj, rfl, hpre, hbr⟩ := hrel
    have HP := Lib.hid hpre; have HBR := Lib.hid hbr
    have hBr : Below w'.heap.size w' wr := hB1.next hbr
    clear hpre hbr
    by_cases hjm : j < m
    · obtain ⟨y, hky, hvy⟩ := HK.out j (by have := HN.out; omega)
      obtain ⟨g, o, hA2, hgB, hrg⟩ := hky.next HB.out
      have HKY := Lib.hid hky; have HVY := Lib.hid hvy
      simp only at hA2
      subst hA2
      have hrg2 : wr.rangeAt g (o + j * 4) y.cells := fun i v hv => (hBr.cell (p := ⟨g, o + j * 4 + i, none⟩) (by have := HB.out.size; show g < _; omega)).trans (hrg i v hv)
      have c0 : wr.cell? ⟨g, o + j * 4, none⟩ = some (.int .u8 y.k) := hrg2 0 _ rfl
      have c1 : wr.cell? ⟨g, o + j * 4 + 1, none⟩ = some (.int .i64 y.num) := hrg2 1 _ rfl
      have c2 : wr.cell? ⟨g, o + j * 4 + 2, none⟩ = some (.string y.nm) := hrg2 2 _ rfl
      have c3 : wr.cell? ⟨g, o + j * 4 + 3, none⟩ = some (.slice y.A y.n y.cap) := hrg2 3 _ rfl
      have K2 := H_1.out.next HBR.out
      obtain ⟨z_2, T_2, F_2⟩ := K2.open_
      have cf : wr.cell? ⟨h, j, none⟩ = some (.func (.func 122) #[] #[]) := ((HF.out.next hBr).cell j).trans (HFS.out j hjm)
      have j0 : (0 : Int) ≤ (j : Int) := by omega
      have j1 : (j : Int) < (m : Int) := by omega
      have j2 : (j : Int) < (n : Int) := by have := HN.out; omega
      clear hky hvy hrg hrg2 K2
      obtain ⟨r1, hr1⟩ : ∃ r1 : Bool, r1 = true ↔ IsE w B nameB y := by
        by_cases h : IsE w B nameB y
        · exact ⟨true, by simp [h]⟩
        · exact ⟨false, by simp [h]⟩
      have HR1 := Lib.hid hr1
      clear hr1
      go_wp2_with fail
      refine (HIH.out y HVY.out _ (HB.out.trans (hBr.mono (by have := HB.out.size; omega))) r1 HR1.out).mono ?_
      rintro e w2 ⟨rfl, hb2⟩
      cases r1
      · obtain rfl : r = false := by
          cases r with
          | false => rfl
          | true =>
            obtain ⟨y', h1, h2⟩ := (HR.out.1 rfl).2 j hjm
            rw [Kid.one h1 HKY.out] at h2
            have := HR1.out.2 h2; cases this
        go_wp2_with fail
        go_ret
        exact ⟨rfl, hBr.next hb2⟩
      · clear T_2 z_2 F_2 cf c0 c1 c2 c3
        go_wp2_with fail
        exact ⟨⟨j + 1, by omega, by go_num, fun i hi => (Nat.lt_succ_iff_lt_or_eq.1 hi).elim (fun h1 => HP.out i h1) (fun h1 => by subst h1; exact ⟨y, HKY.out, HR1.out.1 (by trivial)⟩), HBR.out.next hb2⟩, by simp [intOf]; omega⟩
    · obtain rfl : j = m := by omega
      obtain rfl : r = true := HR.out.2 ⟨HN.out, fun i hi => HP.out i hi⟩
      go_wp2_with fail
      go_ret
      exact ⟨rfl, hBr⟩
theorem isE_item {w : World} {B : Nat} {x : Nd} (hk : x.k = 3) : IsE w B nameB x ↔ (x.num = 0 ∧ nameB x.nm = true) ∧ x.n = 1 ∧ ∀ i, i < 1 → ∃ y, Kid w B x i y ∧ IsE w B nameB y := by
  constructor
  · rintro ⟨e, h⟩
    cases e with
    | item s a => obtain ⟨_, h2, h3, h4, h5, y, h6, h7⟩ := h; exact ⟨⟨h2, by rw [h3]; exact h4⟩, h5, fun i hi => by have e : i = 0 := (by omega); subst e; exact ⟨y, h6, a, h7⟩⟩
    | num v => have := h.1; omega
    | var s => have := h.1; omega
    | top s => have := h.1; omega
    | size s => have := h.1; omega
    | un op a => have := h.1; have := h.2.1; omega
    | bin op a b => have := h.1; have := h.2.1; omega
  · rintro ⟨⟨h1, h2⟩, h3, h4⟩
    obtain ⟨y, h5, a, h6⟩ := h4 0 (by omega)
    exact ⟨.item x.nm a, hk, h1, rfl, h2, h3, y, h5, h6⟩
theorem isE_un {w : World} {B : Nat} {x : Nd} (hk : x.k = 6 ∨ x.k = 7) : IsE w B nameB x ↔ (x.num = 0 ∧ x.nm.toList.isEmpty = true) ∧ x.n = 1 ∧ ∀ i, i < 1 → ∃ y, Kid w B x i y ∧ IsE w B nameB y := by
  constructor
  · rintro ⟨e, h⟩
    cases e with
    | un op a => obtain ⟨_, _, h2, h3, h5, y, h6, h7⟩ := h; exact ⟨⟨h2, h3⟩, h5, fun i hi => by have e : i = 0 := (by omega); subst e; exact ⟨y, h6, a, h7⟩⟩
    | num v => have := h.1; omega
    | var s => have := h.1; omega
    | top s => have := h.1; omega
    | size s => have := h.1; omega
    | item s a => have := h.1; omega
    | bin op a b => have := h.1; have := h.2.1; omega
  · rintro ⟨⟨h1, h2⟩, h3, h4⟩
    obtain ⟨y, h5, a, h6⟩ := h4 0 (by omega)
    exact ⟨.un x.k a, rfl, hk, h1, h2, h3, y, h5, h6⟩
theorem isE_bin {w : World} {B : Nat} {x : Nd} (hk : 8 ≤ x.k ∧ x.k ≤ 23) : IsE w B nameB x ↔ (x.num = 0 ∧ x.nm.toList.isEmpty = true) ∧ x.n = 2 ∧ ∀ i, i < 2 → ∃ y, Kid w B x i y ∧ IsE w B nameB y := by
  constructor
  · rintro ⟨e, h⟩
    cases e with
    | bin op a b =>
      obtain ⟨_, _, h2, h3, h5, y, z, h6, h7, h8, h9⟩ := h
      exact ⟨⟨h2, h3⟩, h5, fun i hi => by
        rcases (show i = 0 ∨ i = 1 by omega) with rfl | rfl
        · exact ⟨y, h6, a, h8⟩
        · exact ⟨z, h7, b, h9⟩⟩
    | num v => have := h.1; omega
    | var s => have := h.1; omega
    | top s => have := h.1; omega
    | size s => have := h.1; omega
    | item s a => have := h.1; omega
    | un op a => have := h.1; have := h.2.1; omega
  · rintro ⟨⟨h1, h2⟩, h3, h4⟩
    obtain ⟨y, h5, a, h6⟩ := h4 0 (by omega)
    obtain ⟨z, h7, b, h8⟩ := h4 1 (by omega)
    exact ⟨.bin x.k a b, rfl, hk, h1, h2, h3, y, z, h5, h7, h6, h8⟩
theorem isE_leaf {w : World} {B : Nat} {x : Nd} (hk : x.k = 2 ∨ x.k = 4 ∨ x.k = 5) : IsE w B nameB x ↔ (x.num = 0 ∧ nameB x.nm = true) ∧ x.n = 0 := by
  constructor
  · rintro ⟨e, h⟩
    cases e with
    | var s => obtain ⟨_, h2, h3, h4, h5⟩ := h; exact ⟨⟨h2, by rw [h3]; exact h4⟩, h5⟩
    | top s => obtain ⟨_, h2, h3, h4, h5⟩ := h; exact ⟨⟨h2, by rw [h3]; exact h4⟩, h5⟩
    | size s => obtain ⟨_, h2, h3, h4, h5⟩ := h; exact ⟨⟨h2, by rw [h3]; exact h4⟩, h5⟩
    | num v => have := h.1; omega
    | item s a => have := h.1; omega
    | un op a => have := h.1; have := h.2.1; omega
    | bin op a b => have := h.1; have := h.2.1; omega
  · rintro ⟨⟨h1, h2⟩, h3⟩
    rcases hk with hk | hk | hk
    · exact ⟨.var x.nm, hk, h1, rfl, h2, h3⟩
    · exact ⟨.top x.nm, hk, h1, rfl, h2, h3⟩
    · exact ⟨.size x.nm, hk, h1, rfl, h2, h3⟩
theorem isE_num {w : World} {B : Nat} {x : Nd} (hk : x.k = 1) : IsE w B nameB x ↔ 0 ≤ x.num ∧ x.nm.toList.isEmpty = true ∧ x.n = 0 := by
  constructor
  · rintro ⟨e, h⟩
    cases e with
    | num v => obtain ⟨_, h2, h3, h4, h5⟩ := h; exact ⟨by omega, h4, h5⟩
    | var s => have := h.1; omega
    | top s => have := h.1; omega
    | size s => have := h.1; omega
    | item s a => have := h.1; omega
    | un op a => have := h.1; have := h.2.1; omega
    | bin op a b => have := h.1; have := h.2.1; omega
  · rintro ⟨h1, h2, h3⟩
    exact ⟨.num x.num, hk, rfl, h1, h2, h3⟩
theorem isE_none {w : World} {B : Nat} {x : Nd} (hk : x.k < 1 ∨ 23 < x.k) : ¬ IsE w B nameB x := by
  rintro ⟨e, h⟩
  cases e with
  | un op a => have := h.1; have := h.2.1; omega
  | bin op a b => have := h.1; have := h.2.1; omega
  | num v => have := h.1; omega
  | var s => have := h.1; omega
  | top s => have := h.1; omega
  | size s => have := h.1; omega
  | item s a => have := h.1; omega
theorem e_IsExpr {w : World} {B : Nat} (hBw : B ≤ w.heap.size) : ∀ d, IsExprAt w B d
  | 0 => fun x h => h.elim
  | d + 1 => fun x hx w' hb r hr => by
    have IH := e_IsExpr hBw d
    have HX := Lib.hid hx; have HB := Lib.hid hb; have HR := Lib.hid hr; have HIH := Lib.hid IH
    have hk := hx.1
    obtain ⟨k, num, nm, A, n, cap⟩ := x
    dsimp only at hk
    clear hx hb hr IH
    dsimp only
    rcases (show k < 1 ∨ 23 < k ∨ k = 1 ∨ k = 2 ∨ k = 4 ∨ k = 5 ∨ k = 3 ∨ k = 6 ∨ k = 7 ∨ (8 ≤ k ∧ k ≤ 23) by omega) with h | h | rfl | rfl | rfl | rfl | rfl | rfl | rfl | ⟨h8, h23⟩
    · obtain rfl : r = false := by cases r with | false => rfl | true => exact absurd (HR.out.1 rfl) (isE_none (.inl h))
      have q1 : (k == 1) = false := by simp; omega
      have q2 : (k == 2) = false := by simp; omega
      have q3 : (k == 3) = false := by simp; omega
      have q4 : (k == 4) = false := by simp; omega
      have q5 : (k == 5) = false := by simp; omega
      have q6 : (k == 6) = false := by simp; omega
      have q7 : (k == 7) = false := by simp; omega
      have q8 : decide (8 ≤ k) = false := by simp; omega
      go_enter Tryz.func122, Tryz.ntmps122
      go_wp2_with fail
      go_ret
      exact ⟨rfl, by go_grown⟩
    · obtain rfl : r = false := by cases r with | false => rfl | true => exact absurd (HR.out.1 rfl) (isE_none (.inr h))
      have q1 : (k == 1) = false := by simp; omega
      have q2 : (k == 2) = false := by simp; omega
      have q3 : (k == 3) = false := by simp; omega
      have q4 : (k == 4) = false := by simp; omega
      have q5 : (k == 5) = false := by simp; omega
      have q6 : (k == 6) = false := by simp; omega
      have q7 : (k == 7) = false := by simp; omega
      have q8 : decide (8 ≤ k) = true := by simp; omega
      have q9 : decide (k ≤ 23) = false := by simp; omega
      go_enter Tryz.func122, Tryz.ntmps122
      go_wp2_with fail
      go_ret
      exact ⟨rfl, by go_grown⟩
    · have hr2 : r = (decide (0 ≤ num) && nm.toList.isEmpty && decide (n = 0)) := by rw [Bool.eq_iff_iff, HR.out, isE_num rfl]; simp [and_assoc]
      subst hr2
      clear HR HX HIH
      by_cases h1 : 0 ≤ num
      · cases h2 : nm.toList.isEmpty
        · go_enter Tryz.func122, Tryz.ntmps122
          go_wp2_with fail
          go_ret
          exact ⟨by simp, by go_grown⟩
        · go_enter Tryz.func122, Tryz.ntmps122
          go_wp2_with fail
          go_ret
          exact ⟨by (simp [h1]; try (rw [Bool.eq_iff_iff]; simp <;> omega)), by go_grown⟩
      · have h1' : decide (0 ≤ num) = false := by simpa using h1
        go_enter Tryz.func122, Tryz.ntmps122
        go_wp2_with fail
        go_ret
        exact ⟨by simp [h1], by go_grown⟩
    · obtain ⟨p, hp⟩ : ∃ p, (decide (num = 0) && nameB nm) = p := ⟨_, rfl⟩
      have hr2 : r = (p && decide (n = 0)) := by rw [← hp, Bool.eq_iff_iff, HR.out, isE_leaf (by simp)]; simp [and_assoc]
      have hnm := fun w => e_named ⟨2, num, nm, A, n, cap⟩ w
      dsimp only at hnm
      rw [hp] at hnm
      have HNM := Lib.hid hnm
      clear hp hnm
      subst hr2
      cases p
      · go_enter Tryz.func122, Tryz.ntmps122
        go_wp2_with fail
        refine (HNM.out _).mono ?_
        rintro e w1 ⟨rfl, hb1⟩
        have hB1 : Below w'.heap.size w' w1 := Below.trans (by go_grown) (hb1.mono (by go_size))
        go_wp2_with fail
        go_ret
        exact ⟨by (simp; try (rw [Bool.eq_iff_iff]; simp <;> omega)), hB1⟩
      · go_enter Tryz.func122, Tryz.ntmps122
        go_upto_region 1 with fail
        refine wp_nameE ?_
        intro w0 hw0
        have hB0 : Below w'.heap.size w' w0 := by rw [hw0]; exact (by go_grown)
        have K1 : Blk w0 w'.heap.size 26 #[.int .u8 2, .int .i64 num, .string nm, .slice A n cap] := by rw [hw0]; exact (by repeat' (first | assumption | exact Blk.new' (by simp) _ _ | apply Blk.alloc | apply Blk.drew))
        clear hw0
        obtain ⟨z_1, T_1, F_1⟩ := K1.open_; have H_1 := Lib.hid K1; clear K1
        go_wp2_with fail
        refine (HNM.out _).mono ?_
        rintro e w1 ⟨rfl, hb1⟩
        have K1 := H_1.out.next hb1
        have hB1 := hB0.next hb1
        clear T_1 z_1 F_1 H_1 hb1
        obtain ⟨z_1, T_1, F_1⟩ := K1.open_
        go_wp2_with fail
        go_ret
        exact ⟨by (simp; try (rw [Bool.eq_iff_iff]; simp <;> omega)), hB1⟩
    · obtain ⟨p, hp⟩ : ∃ p, (decide (num = 0) && nameB nm) = p := ⟨_, rfl⟩
      have hr2 : r = (p && decide (n = 0)) := by rw [← hp, Bool.eq_iff_iff, HR.out, isE_leaf (by simp)]; simp [and_assoc]
      have hnm := fun w => e_named ⟨4, num, nm, A, n, cap⟩ w
      dsimp only at hnm
      rw [hp] at hnm
      have HNM := Lib.hid hnm
      clear hp hnm
      subst hr2
      cases p
      · go_enter Tryz.func122, Tryz.ntmps122
        go_wp2_with fail
        refine (HNM.out _).mono ?_
        rintro e w1 ⟨rfl, hb1⟩
        have hB1 : Below w'.heap.size w' w1 := Below.trans (by go_grown) (hb1.mono (by go_size))
        go_wp2_with fail
        go_ret
        exact ⟨by (simp; try (rw [Bool.eq_iff_iff]; simp <;> omega)), hB1⟩
      · go_enter Tryz.func122, Tryz.ntmps122
        go_upto_region 1 with fail
        refine wp_nameE ?_
        intro w0 hw0
        have hB0 : Below w'.heap.size w' w0 := by rw [hw0]; exact (by go_grown)
        have K1 : Blk w0 w'.heap.size 26 #[.int .u8 4, .int .i64 num, .string nm, .slice A n cap] := by rw [hw0]; exact (by repeat' (first | assumption | exact Blk.new' (by simp) _ _ | apply Blk.alloc | apply Blk.drew))
        clear hw0
        obtain ⟨z_1, T_1, F_1⟩ := K1.open_; have H_1 := Lib.hid K1; clear K1
        go_wp2_with fail
        refine (HNM.out _).mono ?_
        rintro e w1 ⟨rfl, hb1⟩
        have K1 := H_1.out.next hb1
        have hB1 := hB0.next hb1
        clear T_1 z_1 F_1 H_1 hb1
        obtain ⟨z_1, T_1, F_1⟩ := K1.open_
        go_wp2_with fail
        go_ret
        exact ⟨by (simp; try (rw [Bool.eq_iff_iff]; simp <;> omega)), hB1⟩
    · obtain ⟨p, hp⟩ : ∃ p, (decide (num = 0) && nameB nm) = p := ⟨_, rfl⟩
      have hr2 : r = (p && decide (n = 0)) := by rw [← hp, Bool.eq_iff_iff, HR.out, isE_leaf (by simp)]; simp [and_assoc]
      have hnm := fun w => e_named ⟨5, num, nm, A, n, cap⟩ w
      dsimp only at hnm
      rw [hp] at hnm
      have HNM := Lib.hid hnm
      clear hp hnm
      subst hr2
      cases p
      · go_enter Tryz.func122, Tryz.ntmps122
        go_wp2_with fail
        refine (HNM.out _).mono ?_
        rintro e w1 ⟨rfl, hb1⟩
        have hB1 : Below w'.heap.size w' w1 := Below.trans (by go_grown) (hb1.mono (by go_size))
        go_wp2_with fail
        go_ret
        exact ⟨by (simp; try (rw [Bool.eq_iff_iff]; simp <;> omega)), hB1⟩
      · go_enter Tryz.func122, Tryz.ntmps122
        go_upto_region 1 with fail
        refine wp_nameE ?_
        intro w0 hw0
        have hB0 : Below w'.heap.size w' w0 := by rw [hw0]; exact (by go_grown)
        have K1 : Blk w0 w'.heap.size 26 #[.int .u8 5, .int .i64 num, .string nm, .slice A n cap] := by rw [hw0]; exact (by repeat' (first | assumption | exact Blk.new' (by simp) _ _ | apply Blk.alloc | apply Blk.drew))
        clear hw0
        obtain ⟨z_1, T_1, F_1⟩ := K1.open_; have H_1 := Lib.hid K1; clear K1
        go_wp2_with fail
        refine (HNM.out _).mono ?_
        rintro e w1 ⟨rfl, hb1⟩
        have K1 := H_1.out.next hb1
        have hB1 := hB0.next hb1
        clear T_1 z_1 F_1 H_1 hb1
        obtain ⟨z_1, T_1, F_1⟩ := K1.open_
        go_wp2_with fail
        go_ret
        exact ⟨by (simp; try (rw [Bool.eq_iff_iff]; simp <;> omega)), hB1⟩
    · obtain ⟨p, hp⟩ : ∃ p, (decide (num = 0) && nameB nm) = p := ⟨_, rfl⟩
      have hr2 : p = false → r = false := fun h => by
        cases hr : r with
        | false => rfl
        | true => have h2 := ((isE_item (x := ⟨3, num, nm, A, n, cap⟩) rfl).1 (HR.out.1 hr)).1; rw [← hp] at h; simp at h2 h; simp_all
      have hr3 : p = true → (r = true ↔ (⟨3, num, nm, A, n, cap⟩ : Nd).n = 1 ∧ ∀ i, i < 1 → ∃ y, Kid w B ⟨3, num, nm, A, n, cap⟩ i y ∧ IsE w B nameB y) := fun h => by
        rw [HR.out, (isE_item (x := ⟨3, num, nm, A, n, cap⟩) rfl)]
        rw [← hp] at h
        constructor
        · exact fun h => h.2
        · exact fun h2 => ⟨by simpa using h, h2⟩
      have hnm := fun w => e_named ⟨3, num, nm, A, n, cap⟩ w
      dsimp only at hnm
      rw [hp] at hnm
      have HNM := Lib.hid hnm; have HR2 := Lib.hid hr2; have HR3 := Lib.hid hr3
      clear hp hnm hr2 hr3
      cases p
      · obtain rfl : r = false := HR2.out rfl
        go_enter Tryz.func122, Tryz.ntmps122
        go_wp2_with fail
        refine (HNM.out _).mono ?_
        rintro e w1 ⟨rfl, hb1⟩
        have hB1 : Below w'.heap.size w' w1 := Below.trans (by go_grown) (hb1.mono (by go_size))
        go_wp2_with fail
        go_ret
        exact ⟨rfl, hB1⟩
      · go_enter Tryz.func122, Tryz.ntmps122
        go_upto_region 1 with fail
        refine wp_nameE ?_
        intro w0 hw0
        have hB0 : Below w'.heap.size w' w0 := by rw [hw0]; exact (by go_grown)
        have K1 : Blk w0 w'.heap.size 26 #[.int .u8 (3), .int .i64 num, .string nm, .slice A n cap] := by rw [hw0]; exact (by repeat' (first | assumption | exact Blk.new' (by simp) _ _ | apply Blk.alloc | apply Blk.drew))
        clear hw0
        obtain ⟨z_1, T_1, F_1⟩ := K1.open_; have H_1 := Lib.hid K1; clear K1
        go_wp2_with fail
        refine (HNM.out _).mono ?_
        rintro e w1 ⟨rfl, hb1⟩
        have K1 := H_1.out.next hb1
        have hB1 := hB0.next hb1
        clear T_1 z_1 F_1 H_1 hb1
        obtain ⟨z_1, T_1, F_1⟩ := K1.open_
        go_wp2_with fail
        refine (e_kids hBw HIH.out ⟨3, num, nm, A, n, cap⟩ HX.out _ (HB.out.trans (Below.mono (B := w'.heap.size) (by go_grown) (by have := HB.out.size; omega))) w1.heap.size 1 _ _ (Blk.new' (by simp) _ _) rfl (by decide) (fun i hi => by obtain rfl : i = 0 := (by omega); rfl) r (HR3.out (by trivial))).mono ?_
        rintro e w2 ⟨rfl, hb2⟩
        have hB2 : Below w'.heap.size w' w2 := Below.trans (by go_grown) (hb2.mono (by go_size))
        go_wp2_with fail
        go_ret
        exact ⟨by cases r <;> rfl, hB2⟩
    · obtain ⟨p, hp⟩ : ∃ p, (decide (num = 0) && nm.toList.isEmpty) = p := ⟨_, rfl⟩
      have hr2 : p = false → r = false := fun h => by
        cases hr : r with
        | false => rfl
        | true => have h2 := ((isE_un (x := ⟨6, num, nm, A, n, cap⟩) (by simp)).1 (HR.out.1 hr)).1; rw [← hp] at h; simp at h2 h; simp_all
      have hr3 : p = true → (r = true ↔ (⟨6, num, nm, A, n, cap⟩ : Nd).n = 1 ∧ ∀ i, i < 1 → ∃ y, Kid w B ⟨6, num, nm, A, n, cap⟩ i y ∧ IsE w B nameB y) := fun h => by
        rw [HR.out, (isE_un (x := ⟨6, num, nm, A, n, cap⟩) (by simp))]
        rw [← hp] at h
        constructor
        · exact fun h => h.2
        · exact fun h2 => ⟨by simpa using h, h2⟩
      have hnm := fun w => e_plain ⟨6, num, nm, A, n, cap⟩ w
      dsimp only at hnm
      rw [hp] at hnm
      have HNM := Lib.hid hnm; have HR2 := Lib.hid hr2; have HR3 := Lib.hid hr3
      clear hp hnm hr2 hr3
      cases p
      · obtain rfl : r = false := HR2.out rfl
        go_enter Tryz.func122, Tryz.ntmps122
        go_wp2_with fail
        refine (HNM.out _).mono ?_
        rintro e w1 ⟨rfl, hb1⟩
        have hB1 : Below w'.heap.size w' w1 := Below.trans (by go_grown) (hb1.mono (by go_size))
        go_wp2_with fail
        go_ret
        exact ⟨rfl, hB1⟩
      · go_enter Tryz.func122, Tryz.ntmps122
        go_upto_region 1 with fail
        refine wp_nameE ?_
        intro w0 hw0
        have hB0 : Below w'.heap.size w' w0 := by rw [hw0]; exact (by go_grown)
        have K1 : Blk w0 w'.heap.size 26 #[.int .u8 (6), .int .i64 num, .string nm, .slice A n cap] := by rw [hw0]; exact (by repeat' (first | assumption | exact Blk.new' (by simp) _ _ | apply Blk.alloc | apply Blk.drew))
        clear hw0
        obtain ⟨z_1, T_1, F_1⟩ := K1.open_; have H_1 := Lib.hid K1; clear K1
        go_wp2_with fail
        refine (HNM.out _).mono ?_
        rintro e w1 ⟨rfl, hb1⟩
        have K1 := H_1.out.next hb1
        have hB1 := hB0.next hb1
        clear T_1 z_1 F_1 H_1 hb1
        obtain ⟨z_1, T_1, F_1⟩ := K1.open_
        go_wp2_with fail
        refine (e_kids hBw HIH.out ⟨6, num, nm, A, n, cap⟩ HX.out _ (HB.out.trans (Below.mono (B := w'.heap.size) (by go_grown) (by have := HB.out.size; omega))) w1.heap.size 1 _ _ (Blk.new' (by simp) _ _) rfl (by decide) (fun i hi => by obtain rfl : i = 0 := (by omega); rfl) r (HR3.out (by trivial))).mono ?_
        rintro e w2 ⟨rfl, hb2⟩
        have hB2 : Below w'.heap.size w' w2 := Below.trans (by go_grown) (hb2.mono (by go_size))
        go_wp2_with fail
        go_ret
        exact ⟨by cases r <;> rfl, hB2⟩
    · obtain ⟨p, hp⟩ : ∃ p, (decide (num = 0) && nm.toList.isEmpty) = p := ⟨_, rfl⟩
      have hr2 : p = false → r = false := fun h => by
        cases hr : r with
        | false => rfl
        | true => have h2 := ((isE_un (x := ⟨7, num, nm, A, n, cap⟩) (by simp)).1 (HR.out.1 hr)).1; rw [← hp] at h; simp at h2 h; simp_all
      have hr3 : p = true → (r = true ↔ (⟨7, num, nm, A, n, cap⟩ : Nd).n = 1 ∧ ∀ i, i < 1 → ∃ y, Kid w B ⟨7, num, nm, A, n, cap⟩ i y ∧ IsE w B nameB y) := fun h => by
        rw [HR.out, (isE_un (x := ⟨7, num, nm, A, n, cap⟩) (by simp))]
        rw [← hp] at h
        constructor
        · exact fun h => h.2
        · exact fun h2 => ⟨by simpa using h, h2⟩
      have hnm := fun w => e_plain ⟨7, num, nm, A, n, cap⟩ w
      dsimp only at hnm
      rw [hp] at hnm
      have HNM := Lib.hid hnm; have HR2 := Lib.hid hr2; have HR3 := Lib.hid hr3
      clear hp hnm hr2 hr3
      cases p
      · obtain rfl : r = false := HR2.out rfl
        go_enter Tryz.func122, Tryz.ntmps122
        go_wp2_with fail
        refine (HNM.out _).mono ?_
        rintro e w1 ⟨rfl, hb1⟩
        have hB1 : Below w'.heap.size w' w1 := Below.trans (by go_grown) (hb1.mono (by go_size))
        go_wp2_with fail
        go_ret
        exact ⟨rfl, hB1⟩
      · go_enter Tryz.func122, Tryz.ntmps122
        go_upto_region 1 with fail
        refine wp_nameE ?_
        intro w0 hw0
        have hB0 : Below w'.heap.size w' w0 := by rw [hw0]; exact (by go_grown)
        have K1 : Blk w0 w'.heap.size 26 #[.int .u8 (7), .int .i64 num, .string nm, .slice A n cap] := by rw [hw0]; exact (by repeat' (first | assumption | exact Blk.new' (by simp) _ _ | apply Blk.alloc | apply Blk.drew))
        clear hw0
        obtain ⟨z_1, T_1, F_1⟩ := K1.open_; have H_1 := Lib.hid K1; clear K1
        go_wp2_with fail
        refine (HNM.out _).mono ?_
        rintro e w1 ⟨rfl, hb1⟩
        have K1 := H_1.out.next hb1
        have hB1 := hB0.next hb1
        clear T_1 z_1 F_1 H_1 hb1
        obtain ⟨z_1, T_1, F_1⟩ := K1.open_
        go_wp2_with fail
        refine (e_kids hBw HIH.out ⟨7, num, nm, A, n, cap⟩ HX.out _ (HB.out.trans (Below.mono (B := w'.heap.size) (by go_grown) (by have := HB.out.size; omega))) w1.heap.size 1 _ _ (Blk.new' (by simp) _ _) rfl (by decide) (fun i hi => by obtain rfl : i = 0 := (by omega); rfl) r (HR3.out (by trivial))).mono ?_
        rintro e w2 ⟨rfl, hb2⟩
        have hB2 : Below w'.heap.size w' w2 := Below.trans (by go_grown) (hb2.mono (by go_size))
        go_wp2_with fail
        go_ret
        exact ⟨by cases r <;> rfl, hB2⟩
    · have q1 : (k == 1) = false := by simp; omega
      have q2 : (k == 2) = false := by simp; omega
      have q3 : (k == 3) = false := by simp; omega
      have q4 : (k == 4) = false := by simp; omega
      have q5 : (k == 5) = false := by simp; omega
      have q6 : (k == 6) = false := by simp; omega
      have q7 : (k == 7) = false := by simp; omega
      have q8 : decide (8 ≤ k) = true := by simp; omega
      have q9 : decide (k ≤ 23) = true := by simp; omega
      obtain ⟨p, hp⟩ : ∃ p, (decide (num = 0) && nm.toList.isEmpty) = p := ⟨_, rfl⟩
      have hr2 : p = false → r = false := fun h => by
        cases hr : r with
        | false => rfl
        | true => have h2 := ((isE_bin (x := ⟨k, num, nm, A, n, cap⟩) ⟨h8, h23⟩).1 (HR.out.1 hr)).1; rw [← hp] at h; simp at h2 h; simp_all
      have hr3 : p = true → (r = true ↔ (⟨k, num, nm, A, n, cap⟩ : Nd).n = 2 ∧ ∀ i, i < 2 → ∃ y, Kid w B ⟨k, num, nm, A, n, cap⟩ i y ∧ IsE w B nameB y) := fun h => by
        rw [HR.out, (isE_bin (x := ⟨k, num, nm, A, n, cap⟩) ⟨h8, h23⟩)]
        rw [← hp] at h
        constructor
        · exact fun h => h.2
        · exact fun h2 => ⟨by simpa using h, h2⟩
      have hnm := fun w => e_plain ⟨k, num, nm, A, n, cap⟩ w
      dsimp only at hnm
      rw [hp] at hnm
      have HNM := Lib.hid hnm; have HR2 := Lib.hid hr2; have HR3 := Lib.hid hr3
      clear hp hnm hr2 hr3
      cases p
      · obtain rfl : r = false := HR2.out rfl
        go_enter Tryz.func122, Tryz.ntmps122
        go_wp2_with fail
        refine (HNM.out _).mono ?_
        rintro e w1 ⟨rfl, hb1⟩
        have hB1 : Below w'.heap.size w' w1 := Below.trans (by go_grown) (hb1.mono (by go_size))
        go_wp2_with fail
        go_ret
        exact ⟨rfl, hB1⟩
      · go_enter Tryz.func122, Tryz.ntmps122
        go_upto_region 1 with fail
        refine wp_nameE ?_
        intro w0 hw0
        have hB0 : Below w'.heap.size w' w0 := by rw [hw0]; exact (by go_grown)
        have K1 : Blk w0 w'.heap.size 26 #[.int .u8 (k), .int .i64 num, .string nm, .slice A n cap] := by rw [hw0]; exact (by repeat' (first | assumption | exact Blk.new' (by simp) _ _ | apply Blk.alloc | apply Blk.drew))
        clear hw0
        obtain ⟨z_1, T_1, F_1⟩ := K1.open_; have H_1 := Lib.hid K1; clear K1
        go_wp2_with fail
        refine (HNM.out _).mono ?_
        rintro e w1 ⟨rfl, hb1⟩
        have K1 := H_1.out.next hb1
        have hB1 := hB0.next hb1
        clear T_1 z_1 F_1 H_1 hb1
        obtain ⟨z_1, T_1, F_1⟩ := K1.open_
        go_wp2_with fail
        refine (e_kids hBw HIH.out ⟨k, num, nm, A, n, cap⟩ HX.out _ (HB.out.trans (Below.mono (B := w'.heap.size) (by go_grown) (by have := HB.out.size; omega))) w1.heap.size 2 _ _ (Blk.new' (by simp) _ _) rfl (by decide) (fun i hi => by rcases (show i = 0 ∨ i = 1 by omega) with rfl | rfl <;> rfl) r (HR3.out (by trivial))).mono ?_
        rintro e w2 ⟨rfl, hb2⟩
        have hB2 : Below w'.heap.size w' w2 := Below.trans (by go_grown) (hb2.mono (by go_size))
        go_wp2_with fail
        go_ret
        exact ⟨by cases r <;> rfl, hB2⟩
end Go.Proofs.YtakfdnnlhjhcfaaGreatDoor
