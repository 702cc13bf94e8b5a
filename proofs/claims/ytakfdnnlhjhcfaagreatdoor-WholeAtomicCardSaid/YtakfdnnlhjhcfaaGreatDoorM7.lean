/- WhD WhE WhA. -/
import Derived.Test.YtakfdnnlhjhcfaaGreatDoorZWhC
set_option linter.unusedVariables false
set_option linter.unusedSimpArgs false
set_option linter.unusedSimpArgs false
set_option maxRecDepth 100000
set_option maxHeartbeats 4000000
namespace Go.Proofs.YtakfdnnlhjhcfaaGreatDoor
open Go.RowKit Bk
theorem e_stH {w : World} {B d : Nat} (hBw : B ≤ w.heap.size) (x : Nd) (hk : x.k = 50 ∨ x.k = 51) (hx : KV w B (d + 1) x) (w' : World) (hb : Below B w w') :
    Calls Tryz.prog 93 #[.agg #[.int .u8 x.k, .int .i64 x.num, .string x.nm, .slice x.A x.n x.cap]] w' fun en w'' => en = .returned (.bool ((decide (x.num = 0) && nameB x.nm) && (decide (x.n ≤ 8) && allTo (fun i => varB w B (kidN w B x i)) x.n))) ∧ Below w'.heap.size w' w'' := by
  have HP : Hid (∀ W, Calls Tryz.prog 123 #[.agg #[.int .u8 x.k, .int .i64 x.num, .string x.nm, .slice x.A x.n x.cap]] W fun e w' => e = .returned (.bool (decide (x.num = 0) && nameB x.nm)) ∧ Below W.heap.size W w') := Lib.hid fun W => e_named x W
  have HE : Hid (∀ W, Below B w W → Calls Tryz.prog 92 #[.slice x.A x.n x.cap, .func (.func 124) #[] #[]] W fun en w'' => en = .returned (.bool (allTo (fun i => varB w B (kidN w B x i)) x.n)) ∧ Below W.heap.size W w'') := Lib.hid fun W hW =>
    e_everyG hBw x (by obtain ⟨_, _, h1, h2, _, _⟩ := hx; unfold maxLen at h2; omega) 124 _ (fun _ _ => rfl) (fun i hi => by obtain ⟨h1, h2⟩ := kidN_kid hx hi; exact ⟨_, h1, fun W hW => e_isVar hBw _ h2 W hW⟩) W hW
  obtain ⟨pb, hpb⟩ : ∃ pb, (decide (x.num = 0) && nameB x.nm) = pb := ⟨_, rfl⟩
  obtain ⟨rk, hrk⟩ : ∃ rk, allTo (fun i => varB w B (kidN w B x i)) x.n = rk := ⟨_, rfl⟩
  rw [hpb] at HP ⊢
  rw [hrk] at HE ⊢
  have HB := Lib.hid hb
  have hBw' : B ≤ w'.heap.size := by have := hb.size; omega
  clear hx hb hpb hrk
  obtain ⟨k, num, nm, A, n, cap⟩ := x
  dsimp only at *
  obtain ⟨r8, hr8⟩ : ∃ r8, decide (n ≤ 8) = r8 := ⟨_, rfl⟩
  have h8 : decide ((n : Int) ≤ 8) = r8 := by rw [← hr8]; simp; omega
  rw [hr8]
  clear hr8
  rcases hk with rfl | rfl
  · go_enter Tryz.func93, Tryz.ntmps93
    go_upto_region 1 with fail
    refine wp_nameE ?_
    intro w1 hw1
    have hb1 : Below w'.heap.size w' w1 := by rw [hw1]; exact (by go_grown)
    have HB1 := Lib.hid hb1
    have K1 := Lib.hid (Blk.new w' 26 #[.int .u8 50, .int .i64 num, .string nm, .slice A n cap])
    rw [← hw1] at K1
    clear hw1 hb1
    obtain ⟨z_1, T_1, F_1⟩ := K1.out.open_
    go_wp2_with fail
    refine (HP.out w1).mono ?_
    rintro en w2 ⟨rfl, hb2⟩
    have HB2 := Lib.hid (HB1.out.next hb2); have K2 := K1.out.next hb2
    clear T_1 z_1 F_1 hb2
    obtain ⟨z_1, T_1, F_1⟩ := K2.open_
    clear K2
    cases pb with
    | false =>
      go_wp2_with fail
      go_ret
      exact ⟨by simp, HB2.out⟩
    | true =>
      cases r8 with
      | false =>
        go_wp2_with fail
        go_ret
        exact ⟨by simp, HB2.out⟩
      | true =>
        go_wp2_with fail
        refine (HE.out w2 (HB.out.trans (HB2.out.mono hBw'))).mono ?_
        rintro en w3 ⟨rfl, hb3⟩
        have HB3 := Lib.hid (HB2.out.next hb3)
        clear T_1 z_1 F_1 hb3
        go_wp2_with fail
        go_ret
        exact ⟨by simp, HB3.out⟩
  · go_enter Tryz.func93, Tryz.ntmps93
    go_upto_region 1 with fail
    refine wp_nameE ?_
    intro w1 hw1
    have hb1 : Below w'.heap.size w' w1 := by rw [hw1]; exact (by go_grown)
    have HB1 := Lib.hid hb1
    have K1 := Lib.hid (Blk.new w' 26 #[.int .u8 51, .int .i64 num, .string nm, .slice A n cap])
    rw [← hw1] at K1
    clear hw1 hb1
    obtain ⟨z_1, T_1, F_1⟩ := K1.out.open_
    go_wp2_with fail
    refine (HP.out w1).mono ?_
    rintro en w2 ⟨rfl, hb2⟩
    have HB2 := Lib.hid (HB1.out.next hb2); have K2 := K1.out.next hb2
    clear T_1 z_1 F_1 hb2
    obtain ⟨z_1, T_1, F_1⟩ := K2.open_
    clear K2
    cases pb with
    | false =>
      go_wp2_with fail
      go_ret
      exact ⟨by simp, HB2.out⟩
    | true =>
      cases r8 with
      | false =>
        go_wp2_with fail
        go_ret
        exact ⟨by simp, HB2.out⟩
      | true =>
        go_wp2_with fail
        refine (HE.out w2 (HB.out.trans (HB2.out.mono hBw'))).mono ?_
        rintro en w3 ⟨rfl, hb3⟩
        have HB3 := Lib.hid (HB2.out.next hb3)
        clear T_1 z_1 F_1 hb3
        go_wp2_with fail
        go_ret
        exact ⟨by simp, HB3.out⟩
theorem e_stN {w : World} (x : Nd) (h1 : (x.k == 40) = false) (h2 : (x.k == 41) = false) (h3 : (x.k == 42) = false) (h4 : (x.k == 56) = false) (h5 : (x.k == 43) = false) (h6 : (x.k == 44) = false) (h7 : (x.k == 45) = false) (h8 : (x.k == 46) = false) (h9 : (x.k == 47) = false) (h10 : (x.k == 48) = false) (h11 : (x.k == 49) = false) (h12 : (x.k == 50) = false) (h13 : (x.k == 51) = false) (h14 : (x.k == 52) = false) (h15 : (x.k == 53) = false) (h16 : (x.k == 54) = false) (h17 : (x.k == 55) = false) :
    Calls Tryz.prog 93 #[.agg #[.int .u8 x.k, .int .i64 x.num, .string x.nm, .slice x.A x.n x.cap]] w fun en w'' => en = .returned (.bool false) ∧ Below w.heap.size w w'' := by
  obtain ⟨k, num, nm, A, n, cap⟩ := x
  dsimp only at *
  go_enter Tryz.func93, Tryz.ntmps93
  go_wp2_with fail
  go_ret
  exact ⟨rfl, by go_grown⟩
theorem st_of_bl {w : World} {B d : Nat} (hBw : B ≤ w.heap.size) (hbl : BlOk w B d) : StOk w B (d + 1) := by
  intro x hx w' hb
  by_cases hA : x.k = 40 ∨ x.k = 41 ∨ x.k = 42 ∨ x.k = 56
  · have h := e_stA hBw hbl x hA hx w' hb
    rw [stB]; simp only [if_pos hA]; simpa [allTo, plainB] using h
  by_cases hB : x.k = 43
  · have h := e_stB hBw hbl x hB hx w' hb
    rw [stB]; simp only [if_neg hA, if_pos hB]; simpa [allTo, plainB] using h
  by_cases hC : x.k = 44 ∨ x.k = 45
  · have h := e_stC hBw hbl x hC hx w' hb
    rw [stB]; simp only [if_neg hA, if_neg hB, if_pos hC]; simpa [allTo, namedB] using h
  by_cases hD : x.k = 46 ∨ x.k = 47 ∨ x.k = 48 ∨ x.k = 49
  · have h := e_stD hBw hbl x hD hx w' hb
    rw [stB]; simp only [if_neg hA, if_neg hB, if_neg hC, if_pos hD]; simpa [allTo, plainB] using h
  by_cases hH : x.k = 50 ∨ x.k = 51
  · have h := e_stH hBw x hH hx w' hb
    rw [stB]; simp only [if_neg hA, if_neg hB, if_neg hC, if_neg hD, if_pos hH]; simpa [namedB] using h
  by_cases hE : x.k = 52 ∨ x.k = 53
  · have h := e_stE hBw hbl x hE hx w' hb
    rw [stB]; simp only [if_neg hA, if_neg hB, if_neg hC, if_neg hD, if_neg hH, if_pos hE]; simpa [allTo, plainB] using h
  by_cases hF : x.k = 54
  · have h := e_stF hBw hbl x hF hx w' hb
    rw [stB]; simp only [if_neg hA, if_neg hB, if_neg hC, if_neg hD, if_neg hH, if_neg hE, if_pos hF]; simpa [allTo, namedB] using h
  by_cases hG : x.k = 55
  · have h := e_stG hBw hbl x hG hx w' hb
    rw [stB]; simp only [if_neg hA, if_neg hB, if_neg hC, if_neg hD, if_neg hH, if_neg hE, if_neg hF, if_pos hG]; simpa [allTo, namedB] using h
  rw [stB]
  simp only [if_neg hA, if_neg hB, if_neg hC, if_neg hD, if_neg hH, if_neg hE, if_neg hF, if_neg hG]
  exact e_stN x (by simp; omega) (by simp; omega) (by simp; omega) (by simp; omega) (by simp; omega) (by simp; omega) (by simp; omega) (by simp; omega) (by simp; omega) (by simp; omega) (by simp; omega) (by simp; omega) (by simp; omega) (by simp; omega) (by simp; omega) (by simp; omega) (by simp; omega)
theorem bl_of_st {w : World} {B d : Nat} (hBw : B ≤ w.heap.size) (hst : StOk w B d) : BlOk w B (d + 1) := by
  intro x hx w' hb
  have HP : Hid (∀ W, Calls Tryz.prog 91 #[.agg #[.int .u8 x.k, .int .i64 x.num, .string x.nm, .slice x.A x.n x.cap]] W fun e w' => e = .returned (.bool (plainB x)) ∧ Below W.heap.size W w') := Lib.hid fun W => e_plain x W
  have HE : Hid (∀ W, Below B w W → Calls Tryz.prog 92 #[.slice x.A x.n x.cap, .func (.func 93) #[] #[]] W fun en w'' => en = .returned (.bool (allTo (fun i => stB w B d (kidN w B x i)) x.n)) ∧ Below W.heap.size W w'') := Lib.hid fun W hW =>
    e_everyG hBw x (by obtain ⟨_, _, h1, h2, _, _⟩ := hx; unfold maxLen at h2; omega) 93 _ (fun _ _ => rfl) (fun i hi => by obtain ⟨h1, h2⟩ := kidN_kid hx hi; exact ⟨_, h1, fun W hW => hst _ h2 W hW⟩) W hW
  rw [blB]
  obtain ⟨pb, hpb⟩ : ∃ pb, plainB x = pb := ⟨_, rfl⟩
  obtain ⟨rk, hrk⟩ : ∃ rk, allTo (fun i => stB w B d (kidN w B x i)) x.n = rk := ⟨_, rfl⟩
  rw [hpb] at HP ⊢
  rw [hrk] at HE ⊢
  have HB := Lib.hid hb
  have hBw' : B ≤ w'.heap.size := by have := hb.size; omega
  clear hx hb hpb hrk hst
  obtain ⟨k, num, nm, A, n, cap⟩ := x
  dsimp only at *
  by_cases hk : k = 57
  · subst hk
    go_enter Tryz.func54, Tryz.ntmps54
    go_upto_region 1 with fail
    refine wp_nameE ?_
    intro w1 hw1
    have hb1 : Below w'.heap.size w' w1 := by rw [hw1]; exact (by go_grown)
    have K1 : Blk w1 w'.heap.size 26 #[.int .u8 57, .int .i64 num, .string nm, .slice A n cap] := by rw [hw1]; exact (by repeat' (first | assumption | exact Blk.new' (by simp) _ _ | apply Blk.alloc | apply Blk.drew))
    have HK1 := Lib.hid K1; have HB1 := Lib.hid hb1
    clear hw1 hb1
    obtain ⟨z_1, T_1, F_1⟩ := K1.open_
    clear K1
    go_wp2_with fail
    refine (HP.out w1).mono ?_
    rintro en w2 ⟨rfl, hb2⟩
    have HB2 := Lib.hid (HB1.out.next hb2); have K2 := HK1.out.next hb2
    clear T_1 z_1 F_1 hb2
    obtain ⟨z_1, T_1, F_1⟩ := K2.open_
    clear K2
    cases pb with
    | false =>
      go_wp2_with fail
      go_ret
      exact ⟨by simp, HB2.out⟩
    | true =>
      go_wp2_with fail
      refine (HE.out w2 (HB.out.trans (HB2.out.mono hBw'))).mono ?_
      rintro en w3 ⟨rfl, hb3⟩
      have HB3 := Lib.hid (HB2.out.next hb3)
      clear T_1 z_1 F_1 hb3
      go_wp2_with fail
      go_ret
      exact ⟨by simp, HB3.out⟩
  · have hk' : (k == 57) = false := by simpa using hk
    go_enter Tryz.func54, Tryz.ntmps54
    go_wp2_with fail
    go_ret
    exact ⟨by simp [hk], by go_grown⟩
theorem e_stbl {w : World} {B : Nat} (hBw : B ≤ w.heap.size) : ∀ d, StOk w B d ∧ BlOk w B d
  | 0 => ⟨fun x hx => hx.elim, fun x hx => hx.elim⟩
  | d + 1 => ⟨st_of_bl hBw (e_stbl hBw d).2, bl_of_st hBw (e_stbl hBw d).1⟩
end Go.Proofs.YtakfdnnlhjhcfaaGreatDoor
namespace Bk
open Go Go.RowKit
structure Pc where
  nm : ByteArray
  V : Option Addr
  nv : Nat
  cv : Nat
  vs : List Vr
  body : Nd
def PrsAt (w : World) (B d : Nat) (A : Option Addr) (l : List Pc) : Prop := ∀ i p, l[i]? = some p → (∃ g o, A = some ⟨g, o, none⟩ ∧ g < B ∧ w.cell? ⟨g, o + i * 6, none⟩ = some (.string p.nm) ∧ w.cell? ⟨g, o + i * 6 + 1, none⟩ = some (.slice p.V p.nv p.cv) ∧
  w.cell? ⟨g, o + i * 6 + 2, none⟩ = some (.int .u8 p.body.k) ∧ w.cell? ⟨g, o + i * 6 + 3, none⟩ = some (.int .i64 p.body.num) ∧ w.cell? ⟨g, o + i * 6 + 4, none⟩ = some (.string p.body.nm) ∧ w.cell? ⟨g, o + i * 6 + 5, none⟩ = some (.slice p.body.A p.body.n p.body.cap)) ∧
  VsAt w B p.V p.vs ∧ p.vs.length = p.nv ∧ p.nv ≤ p.cv ∧ p.nv ≤ 17592186043904 ∧ KV w B d p.body
end Bk
namespace Go.Proofs.YtakfdnnlhjhcfaaGreatDoor
open Go.RowKit Bk
def limTo (f : Nat → Nat → Bool × Nat) : Nat → Nat → Bool × Nat
  | 0, lf => (true, lf)
  | j + 1, lf => if (limTo f j lf).1 = true then f j (limTo f j lf).2 else limTo f j lf
theorem limTo_false {f : Nat → Nat → Bool × Nat} {j n lf c : Nat} (hj : j ≤ n) (h : limTo f j lf = (false, c)) : limTo f n lf = (false, c) := by
  induction hj with
  | refl => exact h
  | step _ ih => simp only [limTo]; rw [ih]; simp
noncomputable def limF (w : World) (B : Nat) : Nat → Nd → Nat → Nat → Bool × Nat
  | 0, _, _, lf => (false, lf)
  | d + 1, x, dp, lf => if dp = 0 ∨ lf = 0 then (false, lf) else limTo (fun i => limF w B d (kidN w B x i) (dp - 1)) x.n (lf - 1)
theorem e_limF {w : World} {B : Nat} (hBw : B ≤ w.heap.size) : ∀ (d : Nat) (x : Nd), KV w B d x → LimOk w B x (fun dp lf b lf' => (b, lf') = limF w B d x dp lf)
  | 0, _, h => h.elim
  | d + 1, x, h => by
    have hn : x.n ≤ 9223372036854775807 := by obtain ⟨_, _, h1, h2, _, _⟩ := h; unfold maxLen at h2; omega
    refine e_limN hBw x hn (Rk := fun i dp lf b lf' => (b, lf') = limF w B d (kidN w B x i) dp lf) (I := fun dp lf j c => 0 < lf ∧ limTo (fun i => limF w B d (kidN w B x i) (dp - 1)) j (lf - 1) = (true, c)) (fun i hi => ?_) ?_ ?_ ?_ ?_ ?_
    · obtain ⟨h1, h2⟩ := kidN_kid h hi
      exact ⟨_, h1, e_limF hBw d _ h2⟩
    · intro dp lf h0; rw [limF, if_pos h0]
    · intro dp lf; exact ⟨by omega, rfl⟩
    · intro dp lf j c c' hj ⟨h0, hI⟩ hR
      refine ⟨h0, ?_⟩
      simp only [limTo, hI, if_true]
      exact hR.symm
    · intro dp lf j c c' hj ⟨h0, hI⟩ hR
      show (false, c') = limF w B (d + 1) x (dp + 1) lf
      rw [limF, if_neg (by omega)]
      refine (limTo_false (j := j + 1) hj ?_).symm
      simp only [limTo, Nat.add_sub_cancel] at hI ⊢
      rw [hI]; simp only [if_true]
      exact hR.symm
    · intro dp lf c ⟨h0, hI⟩
      show (true, c) = limF w B (d + 1) x (dp + 1) lf
      rw [limF, if_neg (by omega)]; exact hI.symm
noncomputable def bodyB (w : World) (B d : Nat) (m : Nd) : Bool := (limF w B d m 80 2000).1 && blB w B d m
theorem e_bodyB {w : World} {B d : Nat} (hBw : B ≤ w.heap.size) (m : Nd) (hm : KV w B d m) (w' : World) (hb : Below B w w') :
    Calls Tryz.prog 28 #[.agg #[.int .u8 m.k, .int .i64 m.num, .string m.nm, .slice m.A m.n m.cap]] w' fun en w'' => en = .returned (.bool (bodyB w B d m)) ∧ Below w'.heap.size w' w'' := by
  refine (e_isBody hBw m (e_limF hBw d m hm) _ (fun W hW => (e_stbl hBw d).2 m hm W hW) w' hb).mono ?_
  rintro en w'' ⟨⟨b, lf, h1, h2⟩, h3⟩
  have e1 : (limF w B d m 80 2000).1 = b := by rw [← h1]
  exact ⟨by rw [bodyB, e1]; exact h2, h3⟩
open Classical in
noncomputable def declsB (l : List Vr) : Bool := decide (∀ v ∈ l, declB nameB v = true)
theorem e_declsB {w : World} {B : Nat} (hBw : B ≤ w.heap.size) (V : Option Addr) (nv cv : Nat) (vs : List Vr) (hv : VsAt w B V vs) (hnv : vs.length = nv) (hnv2 : nv ≤ 17592186043904) (w' : World) (hb : Below B w w') :
    Calls Tryz.prog 26 #[.slice V nv cv] w' fun en w'' => en = .returned (.bool (declsB vs)) ∧ Below w'.heap.size w' w'' :=
  e_declared hBw V nv cv vs hv hnv hnv2 _ (by simp [declsB]) w' hb
noncomputable def procB (w : World) (B d : Nat) (p : Pc) : Bool := nameB p.nm && (decide (p.nv ≤ 8) && (declsB p.vs && bodyB w B d p.body))
noncomputable def validB (w : World) (B d : Nat) (vs : List Vr) (ps : List Pc) (m : Nd) : Bool := decide (vs.length ≤ 32) && (decide (ps.length ≤ 64) && (declsB vs && (ps.all (procB w B d) && bodyB w B d m)))
theorem e_ValidP {w : World} {B d : Nat} (hBw : B ≤ w.heap.size) (V : Option Addr) (nv cv : Nat) (vs : List Vr) (hv : VsAt w B V vs) (hnv : vs.length = nv) (hnv2 : nv ≤ 17592186043904) (Q : Option Addr) (nq cq : Nat) (ps : List Pc) (hq : PrsAt w B d Q ps) (hnq : ps.length = nq) (hnq2 : nq ≤ 17592186043904) (m : Nd) (hm : KV w B d m) (w' : World) (hb : Below B w w') :
    Calls Tryz.prog 16 #[.agg #[.slice V nv cv, .slice Q nq cq, .int .u8 m.k, .int .i64 m.num, .string m.nm, .slice m.A m.n m.cap]] w' fun en w'' => en = .returned (.bool (validB w B d vs ps m)) ∧ Below w'.heap.size w' w'' := by
  have HD : Hid (∀ W, Below B w W → Calls Tryz.prog 26 #[.slice V nv cv] W fun en w'' => en = .returned (.bool (declsB vs)) ∧ Below W.heap.size W w'') := Lib.hid fun W hW => e_declsB hBw V nv cv vs hv hnv hnv2 W hW
  have HI : Hid (∀ W, Below B w W → Calls Tryz.prog 28 #[.agg #[.int .u8 m.k, .int .i64 m.num, .string m.nm, .slice m.A m.n m.cap]] W fun en w'' => en = .returned (.bool (bodyB w B d m)) ∧ Below W.heap.size W w'') := Lib.hid fun W hW => e_bodyB hBw m hm W hW
  have HPD : Hid (∀ p ∈ ps, ∀ W, Below B w W → Calls Tryz.prog 26 #[.slice p.V p.nv p.cv] W fun en w'' => en = .returned (.bool (declsB p.vs)) ∧ Below W.heap.size W w'') := Lib.hid fun p hp W hW => by
    obtain ⟨i, hi⟩ := List.getElem?_of_mem hp
    obtain ⟨_, h1, h2, _, h4, _⟩ := hq i p hi
    exact e_declsB hBw p.V p.nv p.cv p.vs h1 h2 h4 W hW
  have HPB : Hid (∀ p ∈ ps, ∀ W, Below B w W → Calls Tryz.prog 28 #[.agg #[.int .u8 p.body.k, .int .i64 p.body.num, .string p.body.nm, .slice p.body.A p.body.n p.body.cap]] W fun en w'' => en = .returned (.bool (bodyB w B d p.body)) ∧ Below W.heap.size W w'') := Lib.hid fun p hp W hW => by
    obtain ⟨i, hi⟩ := List.getElem?_of_mem hp
    obtain ⟨_, _, _, _, _, h5⟩ := hq i p hi
    exact e_bodyB hBw p.body h5 W hW
  have HQ := Lib.hid hq; have HNQ := Lib.hid hnq
  have HB := Lib.hid hb
  have hBw' : B ≤ w'.heap.size := by have := hb.size; omega
  unfold validB
  obtain ⟨rD, hrD⟩ : ∃ r, declsB vs = r := ⟨_, rfl⟩
  obtain ⟨rM, hrM⟩ : ∃ r, bodyB w B d m = r := ⟨_, rfl⟩
  rw [hrD] at HD ⊢
  rw [hrM] at HI ⊢
  obtain ⟨rP, hrP⟩ : ∃ r, ps.all (procB w B d) = r := ⟨_, rfl⟩
  have HRP := Lib.hid hrP
  rw [hrP, hnv, hnq]
  obtain ⟨r32, h32⟩ : ∃ r, decide (nv ≤ 32) = r := ⟨_, rfl⟩
  obtain ⟨r64, h64⟩ : ∃ r, decide (nq ≤ 64) = r := ⟨_, rfl⟩
  have g32 : decide ((32 : Int) < (nv : Int)) = !r32 := by rw [← h32]; by_cases h : nv ≤ 32 <;> simp [h] <;> omega
  have g64 : decide ((64 : Int) < (nq : Int)) = !r64 := by rw [← h64]; by_cases h : nq ≤ 64 <;> simp [h] <;> omega
  rw [h32, h64]
  clear hv hnv hq hnq hm hb hrD hrM hrP h32 h64
  obtain ⟨k, num, nm, A, n, cap⟩ := m
  dsimp only at *
  go_enter Tryz.func16, Tryz.ntmps16
  go_upto_region 1 with fail
  refine wp_nameE ?_
  intro w1 hw1
  have hb1 : Below w'.heap.size w' w1 := by rw [hw1]; exact (by go_grown)
  have K1 : Blk w1 w'.heap.size 28 #[.slice V nv cv, .slice Q nq cq, .int .u8 k, .int .i64 num, .string nm, .slice A n cap] := by rw [hw1]; exact (by repeat' (first | assumption | exact Blk.new' (by simp) _ _ | apply Blk.alloc | apply Blk.drew))
  have HK1 := Lib.hid K1; have HB1 := Lib.hid hb1
  clear hw1 hb1
  obtain ⟨z_1, T_1, F_1⟩ := K1.open_
  clear K1
  cases r32 with
  | false =>
    go_wp2_with fail
    go_ret
    exact ⟨by simp, HB1.out⟩
  | true =>
  cases r64 with
  | false =>
    go_wp2_with fail
    go_ret
    exact ⟨by simp, HB1.out⟩
  | true =>
  go_wp2_with fail
  refine (HD.out w1 (HB.out.trans (HB1.out.mono hBw'))).mono ?_
  rintro en w2 ⟨rfl, hb2⟩
  have HB2 := Lib.hid (HB1.out.next hb2); have HK2 := Lib.hid (HK1.out.next hb2)
  clear T_1 z_1 F_1 hb2 HK1 HB1
  obtain ⟨z_1, T_1, F_1⟩ := HK2.out.open_
  cases rD with
  | false =>
    go_wp2_with fail
    go_ret
    exact ⟨by simp, HB2.out⟩
  | true =>
  go_upto_region 4 with fail
  clear T_1 z_1 F_1
  go_loopw [24] (fun v24 wr => ∃ j : Nat, j ≤ nq ∧ v24 = .int .i64 j ∧ (∀ i p, i < j → ps[i]? = some p → procB w B d p = true) ∧ Below w2.heap.size w2 wr) (fun v _ => nq - (intOf v).toNat)
  case atStart => exact ⟨0, Nat.zero_le _, rfl, fun i p hi => absurd hi (Nat.not_lt_zero _), Below.refl _ _⟩
  case round =>
    obtain ⟨j, hj, rfl, hall, hbr⟩ := hrel
    have HALL := Lib.hid hall; have HBR := Lib.hid (HB2.out.next hbr); have HKR := Lib.hid (HK2.out.next hbr); have HX := Lib.hid hbr
    clear hall hbr
    by_cases hjn : j < nq
    · obtain ⟨p, hpj⟩ : ∃ p, ps[j]? = some p := ⟨_, List.getElem?_eq_getElem (by have := HNQ.out; omega)⟩
      obtain ⟨⟨g, o, hA2, hgB, c0, c1, c2, c3, c4, c5⟩, hpv, hpn, hpc, hpm, hpk⟩ := HQ.out j p hpj
      subst hA2
      have hX := HB.out.trans (HBR.out.mono hBw')
      have d0 := (hX.cell (p := ⟨g, o + j * 6, none⟩) hgB).trans c0
      have d1 := (hX.cell (p := ⟨g, o + j * 6 + 1, none⟩) hgB).trans c1
      have d2 := (hX.cell (p := ⟨g, o + j * 6 + 2, none⟩) hgB).trans c2
      have d3 := (hX.cell (p := ⟨g, o + j * 6 + 3, none⟩) hgB).trans c3
      have d4 := (hX.cell (p := ⟨g, o + j * 6 + 4, none⟩) hgB).trans c4
      have d5 := (hX.cell (p := ⟨g, o + j * 6 + 5, none⟩) hgB).trans c5
      have hmem := List.mem_of_getElem? hpj
      have HPDj := Lib.hid (HPD.out p hmem); have HPBj := Lib.hid (HPB.out p hmem)
      have HF : Hid (procB w B d p = false → rP = false) := Lib.hid fun h => by
        rw [← HRP.out]
        cases hq : ps.all (procB w B d) with
        | false => rfl
        | true => rw [List.all_eq_true] at hq; have := hq p hmem; rw [h] at this; cases this
      have HS : Hid (procB w B d p = true → ∀ i u, i < j + 1 → ps[i]? = some u → procB w B d u = true) := Lib.hid fun h i u hi hu => (Nat.lt_succ_iff_lt_or_eq.1 hi).elim (fun h1 => HALL.out i u h1 hu) (fun h1 => by subst h1; rw [hpj] at hu; injection hu with hu; subst hu; exact h)
      obtain ⟨pn, pV, pnv, pcv, pvs, ⟨bk, bnum, bnm, bA, bn, bcap⟩⟩ := p
      unfold procB at HF HS
      dsimp only at *
      have j0 : (0 : Int) ≤ (j : Int) := by omega
      have j1 : (j : Int) < (nq : Int) := by omega
      obtain ⟨q1, hq1⟩ : ∃ q, nameB pn = q := ⟨_, rfl⟩
      obtain ⟨q2, hq2⟩ : ∃ q, decide (pnv ≤ 8) = q := ⟨_, rfl⟩
      obtain ⟨q3, hq3⟩ : ∃ q, declsB pvs = q := ⟨_, rfl⟩
      obtain ⟨q4, hq4⟩ : ∃ q, bodyB w B d ⟨bk, bnum, bnm, bA, bn, bcap⟩ = q := ⟨_, rfl⟩
      have g8 : decide ((8 : Int) < (pnv : Int)) = !q2 := by rw [← hq2]; by_cases h : pnv ≤ 8 <;> simp [h] <;> omega
      have HNM : Hid (∀ W, Calls Tryz.prog 27 #[.string pn] W fun e w' => e = .returned (.bool q1) ∧ Below W.heap.size W w') := Lib.hid fun W => by rw [← hq1]; exact e_Name pn W
      rw [hq1, hq2, hq3, hq4] at HF HS
      rw [hq3] at HPDj
      rw [hq4] at HPBj
      clear c0 c1 c2 c3 c4 c5 hpj hpv hpn hpc hpm hpk hX hmem hq1 hq2 hq3 hq4 HQ HPD HPB HRP HALL
      go_upto_region 6 with fail
      refine wp_nameE ?_
      intro w3 hw3
      have hb3 : Below wr.heap.size wr w3 := by rw [hw3]; exact (by go_grown)
      have KP : Blk w3 wr.heap.size 64 #[.string pn, .slice pV pnv pcv, .int .u8 bk, .int .i64 bnum, .string bnm, .slice bA bn bcap] := by rw [hw3]; exact (by repeat' (first | assumption | exact Blk.new' (by simp) _ _ | apply Blk.alloc | apply Blk.drew))
      have HB3 := Lib.hid (HBR.out.next hb3); have HX3 := Lib.hid (HX.out.next hb3); have HKP := Lib.hid KP
      clear hw3 d0 d1 d2 d3 d4 d5 hb3
      obtain ⟨z_p, T_p, F_p⟩ := KP.open_
      clear KP
      go_wp2_with fail
      refine (HNM.out w3).mono ?_
      rintro en w4 ⟨rfl, hb4⟩
      have HB4 := Lib.hid (HB3.out.next hb4); have HX4 := Lib.hid (HX3.out.next hb4); have HKP4 := Lib.hid (HKP.out.next hb4)
      clear T_p z_p F_p hb4 HKP HB3 HX3
      obtain ⟨z_p, T_p, F_p⟩ := HKP4.out.open_
      cases q1 with
      | false =>
        obtain rfl : rP = false := HF.out (by simp)
        go_wp2_with fail
        go_ret
        exact ⟨by simp, HB4.out⟩
      | true =>
      cases q2 with
      | false =>
        obtain rfl : rP = false := HF.out (by simp)
        go_wp2_with fail
        go_ret
        exact ⟨by simp, HB4.out⟩
      | true =>
      go_wp2_with fail
      refine (HPDj.out w4 (HB.out.trans (HB4.out.mono hBw'))).mono ?_
      rintro en w5 ⟨rfl, hb5⟩
      have HB5 := Lib.hid (HB4.out.next hb5); have HX5 := Lib.hid (HX4.out.next hb5); have HKP5 := Lib.hid (HKP4.out.next hb5)
      clear T_p z_p F_p hb5 HKP4 HB4 HX4
      obtain ⟨z_p, T_p, F_p⟩ := HKP5.out.open_
      cases q3 with
      | false =>
        obtain rfl : rP = false := HF.out (by simp)
        go_wp2_with fail
        go_ret
        exact ⟨by simp, HB5.out⟩
      | true =>
      go_wp2_with fail
      refine (HPBj.out w5 (HB.out.trans (HB5.out.mono hBw'))).mono ?_
      rintro en w6 ⟨rfl, hb6⟩
      have HB6 := Lib.hid (HB5.out.next hb6); have HX6 := Lib.hid (HX5.out.next hb6)
      clear T_p z_p F_p hb6
      cases q4 with
      | false =>
        obtain rfl : rP = false := HF.out (by simp)
        go_wp2_with fail
        go_ret
        exact ⟨by simp, HB6.out⟩
      | true =>
        have HS2 := Lib.hid (HS.out (by simp))
        clear HS HF
        go_wp2_with fail
        exact ⟨⟨j + 1, by omega, by go_num, HS2.out, HX6.out⟩, by simp [intOf]; omega⟩
    · obtain rfl : j = nq := by omega
      obtain rfl : rP = true := by
        rw [← HRP.out, List.all_eq_true]
        intro p hp
        obtain ⟨i, hi⟩ := List.getElem?_of_mem hp
        exact HALL.out i p (by have := (List.getElem?_eq_some_iff.1 hi).1; have := HNQ.out; omega) hi
      obtain ⟨z_1, T_1, F_1⟩ := HKR.out.open_
      go_wp2_with fail
      refine (HI.out wr (HB.out.trans (HBR.out.mono hBw'))).mono ?_
      rintro en w4 ⟨rfl, hb4⟩
      have HB4 := Lib.hid (HBR.out.next hb4)
      clear T_1 z_1 F_1 hb4
      go_wp2_with fail
      go_ret
      exact ⟨by simp, HB4.out⟩
end Go.Proofs.YtakfdnnlhjhcfaaGreatDoor
namespace Bk
open Go.RowKit (wrap64)
inductive Sq where
  | nil
  | upd (op : Int) (p e : Ex) (rest : Sq)
  | swp (p q : Ex) (rest : Sq)
  | stk (op : Int) (s : ByteArray) (p : Ex) (rest : Sq)
  | tap (op : Int) (p : Ex) (rest : Sq)
  | cal (op : Int) (s : ByteArray) (args : List ByteArray) (rest : Sq)
  | ifs (e : Ex) (a b : Sq) (e' : Ex) (rest : Sq)
  | frm (e : Ex) (a b : Sq) (e' : Ex) (rest : Sq)
  | loc (x : ByteArray) (e : Ex) (b : Sq) (e' : Ex) (rest : Sq)
  | lst (x : ByteArray) (b : Sq) (rest : Sq)
structure Pr where
  nm : ByteArray
  params : List Vr
  body : Sq
structure Pg where
  vars : List Vr
  procs : List Pr
  main : Sq
structure PFr where
  vars : List Vr
  idx : List Nat
  locals : Nat
structure PSt where
  cells : List (List Int)
  base : PFr
  calls : List PFr
  inp : List Int
  out : List Int
def PSt.cur (σ : PSt) : PFr := σ.calls.getLastD σ.base
def PSt.setCur (σ : PSt) (f : PFr) : PSt := if σ.calls = [] then { σ with base := f } else { σ with calls := σ.calls.set (σ.calls.length - 1) f }
def findV (s : ByteArray) : List Vr → Option Nat
  | [] => none
  | v :: l => match findV s l with
    | some i => some (i + 1)
    | none => if v.nm.toList == s.toList then some 0 else none
def PSt.at_ (σ : PSt) (s : ByteArray) : Option Nat := (findV s σ.cur.vars).map fun i => σ.cur.idx.getD i 0
def PSt.look (σ : PSt) (s : ByteArray) : Option (List Int) := (σ.at_ s).map fun c => σ.cells.getD c []
def evalG (look : ByteArray → Option (List Int)) : Ex → Int × Int
  | .num v => (v, 0)
  | .var s => match look s with
    | none => (0, 6)
    | some l => if l.length = 1 then (l.getD 0 0, 0) else (0, 7)
  | .top s => match look s with
    | none => (0, 6)
    | some l => if l.length = 0 then (0, 13) else (l.getLastD 0, 0)
  | .size s => match look s with
    | none => (0, 6)
    | some l => (l.length, 0)
  | .item s a => match look s with
    | none => (0, 6)
    | some l => if (evalG look a).2 ≠ 0 then (0, (evalG look a).2) else if (evalG look a).1 < 0 ∨ (l.length : Int) ≤ (evalG look a).1 then (0, 12) else (l.getD (evalG look a).1.toNat 0, 0)
  | .un op a => if (evalG look a).2 ≠ 0 then (0, (evalG look a).2) else if op = 6 then (wrap64 (-(evalG look a).1), 0) else (if (evalG look a).1 = 0 then 1 else 0, 0)
  | .bin op a b => if (evalG look a).2 ≠ 0 then (0, (evalG look a).2) else if (evalG look b).2 ≠ 0 then (0, (evalG look b).2) else apply op (evalG look a).1 (evalG look b).1
def useE (vars : List Vr) (s : ByteArray) (k : Int) : Int := match (findV s vars).bind fun i => vars[i]? with
  | none => 6
  | some v => if v.k ≠ k then 7 else 0
def faultE (vars : List Vr) : Ex → Int
  | .num _ => 0
  | .var s => useE vars s 1
  | .top s => useE vars s 3
  | .size s => useE vars s 3
  | .item s a => if useE vars s 2 ≠ 0 then useE vars s 2 else faultE vars a
  | .un _ a => faultE vars a
  | .bin _ a b => if faultE vars a ≠ 0 then faultE vars a else faultE vars b
def indexE (look : ByteArray → Option (List Int)) : Ex → Int × Int
  | .item _ a => evalG look a
  | _ => (0, 0)
def PSt.read (σ : PSt) (s : ByteArray) (i : Nat) : Int := ((σ.look s).getD []).getD i 0
def PSt.write (σ : PSt) (s : ByteArray) (i : Nat) (v : Int) : PSt := match σ.at_ s with
  | none => σ
  | some c => { σ with cells := σ.cells.set c ((σ.cells.getD c []).set i v) }
def PSt.setCell (σ : PSt) (s : ByteArray) (l : List Int) : PSt := match σ.at_ s with
  | none => σ
  | some c => { σ with cells := σ.cells.set c l }
def PSt.len (σ : PSt) (s : ByteArray) : Nat := ((σ.look s).getD []).length
abbrev Rs := Except Int PSt
def err2 (a b : Int) : Int := if a ≠ 0 then a else b
def placeM (σ : PSt) (p : Ex) (right : Int × Int) (k : Nat → Int → Rs) : Rs :=
  if (indexE σ.look p).2 ≠ 0 then .error (indexE σ.look p).2 else if right.2 ≠ 0 then .error right.2
  else if (indexE σ.look p).1 < 0 ∨ (σ.len p.nam : Int) ≤ (indexE σ.look p).1 then .error 12 else k (indexE σ.look p).1.toNat right.1
def updM (op : Int) (p e : Ex) (σ : PSt) : Rs :=
  if op = 56 then .error 9 else if err2 (faultE σ.cur.vars p) (faultE σ.cur.vars e) ≠ 0 then .error (err2 (faultE σ.cur.vars p) (faultE σ.cur.vars e))
  else placeM σ p (evalG σ.look e) fun i v => .ok (σ.write p.nam i (if op = 40 then wrap64 (σ.read p.nam i + v) else if op = 41 then wrap64 (σ.read p.nam i - v) else xor64 (σ.read p.nam i) v))
def swpM (p q : Ex) (σ : PSt) : Rs :=
  if err2 (faultE σ.cur.vars p) (faultE σ.cur.vars q) ≠ 0 then .error (err2 (faultE σ.cur.vars p) (faultE σ.cur.vars q))
  else placeM σ p (indexE σ.look q) fun i j => if j < 0 ∨ (σ.len q.nam : Int) ≤ j then .error 12
    else .ok ((σ.write p.nam i (σ.read q.nam j.toNat)).write q.nam j.toNat (σ.read p.nam i))
def stkM (op : Int) (s : ByteArray) (p : Ex) (σ : PSt) : Rs :=
  if err2 (useE σ.cur.vars s 3) (faultE σ.cur.vars p) ≠ 0 then .error (err2 (useE σ.cur.vars s 3) (faultE σ.cur.vars p))
  else placeM σ p (0, 0) fun i _ =>
    if op = 44 then (if 1000 ≤ σ.len s then .error 5 else .ok ((σ.setCell s ((σ.look s).getD [] ++ [σ.read p.nam i])).write p.nam i 0))
    else if σ.len s = 0 then .error 13 else if σ.read p.nam i ≠ 0 then .error 14
    else .ok ((σ.write p.nam i (((σ.look s).getD []).getLastD 0)).setCell s ((σ.look s).getD []).dropLast)
def tapM (op : Int) (p : Ex) (σ : PSt) : Rs :=
  if faultE σ.cur.vars p ≠ 0 then .error (faultE σ.cur.vars p)
  else placeM σ p (0, 0) fun i _ =>
    if op = 46 then (if σ.inp = [] then .error 17 else if σ.read p.nam i ≠ 0 then .error 14 else .ok ({ σ with inp := σ.inp.tail }.write p.nam i (σ.inp.headD 0)))
    else if op = 47 then (if 4096 ≤ σ.inp.length then .error 5 else .ok ({ σ with inp := σ.read p.nam i :: σ.inp }.write p.nam i 0))
    else if op = 48 then (if 4096 ≤ σ.out.length then .error 5 else .ok ({ σ with out := σ.out ++ [σ.read p.nam i] }.write p.nam i 0))
    else (if σ.out = [] then .error 17 else if σ.read p.nam i ≠ 0 then .error 14 else .ok ({ σ with out := σ.out.dropLast }.write p.nam i (σ.out.getLastD 0)))
def invK (op : Int) : Int := if op = 40 then 41 else if op = 41 then 40 else if op = 44 then 45 else if op = 45 then 44 else if op = 46 then 47 else if op = 47 then 46 else if op = 48 then 49 else if op = 49 then 48 else op
def openM (v : Vr) (items : List Int) (σ : PSt) : Rs :=
  if (findV v.nm σ.cur.vars).isSome then .error 22
  else .ok ({ σ with cells := σ.cells ++ [items] }.setCur ⟨σ.cur.vars ++ [v], σ.cur.idx ++ [σ.cells.length], σ.cur.locals + 1⟩)
def closeM (s : ByteArray) (v : Int) (σ : PSt) : Rs :=
  match σ.cur.vars.getLast? with
  | none => .error 6
  | some u => if σ.cur.locals = 0 ∨ (u.nm.toList == s.toList) = false then .error 6
    else if u.k = 1 ∧ (σ.cells.getD (σ.cur.idx.getLastD 0) []).getD 0 0 ≠ v ∨ u.k = 3 ∧ (σ.cells.getD (σ.cur.idx.getLastD 0) []).length ≠ 0 then .error 16
    else .ok (σ.setCur ⟨σ.cur.vars.dropLast, σ.cur.idx.dropLast, σ.cur.locals - 1⟩)
def argsM (σ : PSt) : List Vr → List ByteArray → Except Int (List Nat)
  | [], _ => .ok []
  | v :: ps, s :: ss => match findV s σ.cur.vars with
    | none => .error 6
    | some i => if (σ.cur.vars.getD i ⟨s, 0, 0⟩).k ≠ v.k ∨ (σ.cur.vars.getD i ⟨s, 0, 0⟩).len ≠ v.len then .error 7
      else match argsM σ ps ss with
        | .error e => .error e
        | .ok l => .ok (σ.cur.idx.getD i 0 :: l)
  | _ :: _, [] => .error 7
def enterM (ps : List Vr) (ss : List ByteArray) (σ : PSt) : Rs :=
  if ps.length ≠ ss.length then .error 7 else match argsM σ ps ss with
    | .error e => .error e
    | .ok l => if 100 ≤ σ.calls.length then .error 19 else .ok { σ with calls := σ.calls ++ [⟨ps, l, 0⟩] }
def leaveM (σ : PSt) : Rs := if σ.calls = [] ∨ 0 < σ.cur.locals then .error 20 else .ok { σ with calls := σ.calls.dropLast }
abbrev Mo := PSt → Nat → Except Int (PSt × Nat)
def okM : Mo := fun σ f => .ok (σ, f)
def Mo.seq (a b : Mo) : Mo := fun σ f => match a σ f with
  | .error e => .error e
  | .ok r => b r.1 r.2
def stepM : Mo := fun σ f => match f with
  | 0 => .error 18
  | f + 1 => .ok (σ, f)
def liftM (g : PSt → Rs) : Mo := fun σ f => match g σ with
  | .error e => .error e
  | .ok σ' => .ok (σ', f)
def valueM (e : Ex) (k : Int → Mo) : Mo := fun σ f => if (evalG σ.look e).2 ≠ 0 then .error (evalG σ.look e).2 else k (evalG σ.look e).1 σ f
def holdsM (e : Ex) (k : Bool → Mo) : Mo := stepM.seq (valueM e fun v => k (decide (v ≠ 0)))
def assertM (e : Ex) (want : Bool) : Mo := holdsM e fun b => if b = want then okM else fun _ _ => .error 15
def basicM (g : PSt → Rs) : Mo := stepM.seq (liftM g)
def loopM (a b : Mo) (entry test : Ex) : Nat → Mo
  | 0 => fun _ _ => .error 18
  | n + 1 => a.seq (holdsM test fun t => if t then okM else b.seq ((assertM entry false).seq (loopM a b entry test n)))
def callM (procs : List Pr) (inner : Bool → Sq → Mo) (back : Bool) (s : ByteArray) (args : List ByteArray) : Mo :=
  match procs.find? (fun p => p.nm.toList == s.toList) with
  | none => fun _ _ => .error 6
  | some p => stepM.seq ((liftM (enterM p.params args)).seq ((inner back p.body).seq (stepM.seq (liftM leaveM))))
def put (back : Bool) (a b : Mo) : Mo := if back then b.seq a else a.seq b
def execS (procs : List Pr) (n : Nat) (inner : Bool → Sq → Mo) (back : Bool) : Sq → Mo
  | .nil => okM
  | .upd op p e r => put back (basicM (updM (if back then invK op else op) p e)) (execS procs n inner back r)
  | .swp p q r => put back (basicM (swpM p q)) (execS procs n inner back r)
  | .stk op s p r => put back (basicM (stkM (if back then invK op else op) s p)) (execS procs n inner back r)
  | .tap op p r => put back (basicM (tapM (if back then invK op else op) p)) (execS procs n inner back r)
  | .cal op s ss r => put back (callM procs inner (back != decide (op = 51)) s ss) (execS procs n inner back r)
  | .ifs e a b e' r => put back (holdsM (if back then e' else e) fun t => (inner back (if t then a else b)).seq (assertM (if back then e else e') t)) (execS procs n inner back r)
  | .frm e a b e' r => put back ((assertM (if back then e' else e) true).seq (loopM (inner back a) (inner back b) (if back then e' else e) (if back then e else e') n)) (execS procs n inner back r)
  | .loc x e b e' r => put back (stepM.seq ((valueM (if back then e' else e) fun v => liftM (openM ⟨x, 1, 0⟩ [v])).seq ((inner back b).seq (stepM.seq (valueM (if back then e else e') fun v => liftM (closeM x v)))))) (execS procs n inner back r)
  | .lst x b r => put back (stepM.seq ((liftM (openM ⟨x, 3, 0⟩ [])).seq ((inner back b).seq (stepM.seq (liftM (closeM x 0)))))) (execS procs n inner back r)
def execP (procs : List Pr) : Nat → Bool → Sq → Mo
  | 0, _, _ => fun _ _ => .error 18
  | n + 1, back, s => execS procs n (execP procs n) back s
def runP (p : Pg) (back : Bool) (cells : List (List Int)) (inp out : List Int) (k : Nat) : Except Int (PSt × Nat) :=
  execP p.procs 2001 back p.main ⟨cells, ⟨p.vars, List.range p.vars.length, 0⟩, [], inp, out⟩ k
def Fuels (N : Nat) (a : Mo) : Prop := ∀ σ f, f < N → (∀ σ' f', a σ f = .ok (σ', f') → f' ≤ f ∧ ∀ g, g < N → (f - f' ≤ g → a σ g = .ok (σ', g - (f - f'))) ∧ (g < f - f' → a σ g = .error 18))
theorem Fuels.mono {N M : Nat} {a : Mo} (h : Fuels N a) (hM : M ≤ N) : Fuels M a := fun σ f hf σ' f' he =>
  let ⟨h1, h2⟩ := h σ f (by omega) σ' f' he
  ⟨h1, fun g hg => h2 g (by omega)⟩
theorem Fuels.ok (N : Nat) : Fuels N okM := fun σ f hf σ' f' h => by
  simp only [okM, Except.ok.injEq, Prod.mk.injEq] at h
  obtain ⟨rfl, rfl⟩ := h
  exact ⟨Nat.le_refl _, fun g hg => ⟨fun _ => by simp [okM], fun h => by omega⟩⟩
theorem Fuels.err (N : Nat) (e : Int) : Fuels N fun _ _ => .error e := fun σ f hf σ' f' h => by cases h
theorem Fuels.seq {N : Nat} {a b : Mo} (ha : Fuels N a) (hb : Fuels N b) : Fuels N (a.seq b) := fun σ f hf σ' f' h => by
  unfold Mo.seq at h
  cases h1 : a σ f with
  | error e => rw [h1] at h; cases h
  | ok r =>
    rw [h1] at h
    obtain ⟨σ1, f1⟩ := r
    obtain ⟨q1, q2⟩ := ha σ f hf σ1 f1 h1
    obtain ⟨q3, q4⟩ := hb σ1 f1 (by omega) σ' f' h
    refine ⟨by omega, fun g hgN => ⟨fun hg => ?_, fun hg => ?_⟩⟩
    · unfold Mo.seq
      rw [(q2 g hgN).1 (by omega)]
      simp only
      rw [(q4 _ (by omega)).1 (by omega)]
      congr 2; omega
    · unfold Mo.seq
      by_cases hg1 : f - f1 ≤ g
      · rw [(q2 g hgN).1 hg1]
        exact (q4 _ (by omega)).2 (by omega)
      · rw [(q2 g hgN).2 (by omega)]
theorem Fuels.step {N : Nat} {b : Mo} (hb : Fuels N b) : Fuels (N + 1) (stepM.seq b) := fun σ f hf σ' f' h => by
  cases f with
  | zero => cases h
  | succ f =>
    have h' : b σ f = .ok (σ', f') := h
    obtain ⟨q3, q4⟩ := hb σ f (by omega) σ' f' h'
    refine ⟨by omega, fun g hgN => ?_⟩
    cases g with
    | zero => exact ⟨fun hg => by omega, fun _ => rfl⟩
    | succ g =>
      show (_ → b σ g = _) ∧ (_ → b σ g = _)
      refine ⟨fun hg => ?_, fun hg => (q4 g (by omega)).2 (by omega)⟩
      rw [(q4 g (by omega)).1 (by omega)]
      congr 2; omega
theorem Fuels.stepS {N : Nat} {b : Mo} (hb : Fuels N b) : Fuels N (stepM.seq b) := (Fuels.step hb).mono (by omega)
theorem Fuels.lift (N : Nat) (g : PSt → Rs) : Fuels N (liftM g) := fun σ f hf σ' f' h => by
  unfold liftM at h
  cases h1 : g σ with
  | error e => rw [h1] at h; cases h
  | ok s =>
    rw [h1] at h
    simp only [Except.ok.injEq, Prod.mk.injEq] at h
    obtain ⟨rfl, rfl⟩ := h
    refine ⟨Nat.le_refl _, fun g' _ => ⟨fun _ => by unfold liftM; rw [h1]; simp, fun h => by omega⟩⟩
theorem Fuels.value {N : Nat} (e : Ex) {k : Int → Mo} (hk : ∀ v, Fuels N (k v)) : Fuels N (valueM e k) := fun σ f hf σ' f' h => by
  unfold valueM at h ⊢
  split at h
  · cases h
  · rename_i h0
    obtain ⟨q1, q2⟩ := hk _ σ f hf σ' f' h
    refine ⟨q1, fun g hgN => ⟨fun hg => ?_, fun hg => ?_⟩⟩
    · rw [if_neg h0]; exact (q2 g hgN).1 hg
    · rw [if_neg h0]; exact (q2 g hgN).2 hg
theorem Fuels.holds {N : Nat} (e : Ex) {k : Bool → Mo} (hk : ∀ v, Fuels N (k v)) : Fuels (N + 1) (holdsM e k) := Fuels.step (Fuels.value e fun _ => hk _)
theorem Fuels.assert (N : Nat) (e : Ex) (w : Bool) : Fuels N (assertM e w) := (Fuels.holds e fun b => by
  by_cases h : b = w
  · rw [if_pos h]; exact Fuels.ok N
  · rw [if_neg h]; exact Fuels.err N 15).mono (by omega)
theorem Fuels.basic (N : Nat) (g : PSt → Rs) : Fuels N (basicM g) := Fuels.stepS (Fuels.lift N g)
theorem Fuels.loop {a b : Mo} (entry test : Ex) : ∀ n, Fuels n a → Fuels n b → Fuels n (loopM a b entry test n)
  | 0, _, _ => fun σ f hf => absurd hf (Nat.not_lt_zero _)
  | n + 1, ha, hb => ha.seq (Fuels.holds test fun t => by
    cases t with
    | true => exact Fuels.ok n
    | false => exact (hb.mono (by omega)).seq ((Fuels.assert n entry false).seq (Fuels.loop entry test n (ha.mono (by omega)) (hb.mono (by omega)))))
theorem Mo.seq_assoc (a b c : Mo) : (a.seq b).seq c = a.seq (b.seq c) := by
  funext σ f
  unfold Mo.seq
  cases a σ f with
  | error e => rfl
  | ok r => rfl
theorem Fuels.put {N : Nat} {a b : Mo} (back : Bool) (ha : Fuels N a) (hb : Fuels N b) : Fuels N (put back a b) := by
  cases back with
  | true => exact hb.seq ha
  | false => exact ha.seq hb
theorem Fuels.execS (procs : List Pr) (n : Nat) (inner : Bool → Sq → Mo) (hi : ∀ b s, Fuels n (inner b s)) (back : Bool) : ∀ s, Fuels (n + 1) (Bk.execS procs n inner back s)
  | .nil => Fuels.ok _
  | .upd op p e r => Fuels.put back (Fuels.basic _ _) (Fuels.execS procs n inner hi back r)
  | .swp p q r => Fuels.put back (Fuels.basic _ _) (Fuels.execS procs n inner hi back r)
  | .stk op s p r => Fuels.put back (Fuels.basic _ _) (Fuels.execS procs n inner hi back r)
  | .tap op p r => Fuels.put back (Fuels.basic _ _) (Fuels.execS procs n inner hi back r)
  | .cal op s ss r => by
    refine Fuels.put back ?_ (Fuels.execS procs n inner hi back r)
    unfold callM
    split
    · exact Fuels.err _ 6
    · exact Fuels.step ((Fuels.lift n _).seq ((hi _ _).seq (Fuels.stepS (Fuels.lift n _))))
  | .ifs e a b e' r => Fuels.put back (Fuels.holds _ fun t => (hi _ _).seq (Fuels.assert n _ t)) (Fuels.execS procs n inner hi back r)
  | .frm e a b e' r => by
    refine Fuels.put back ?_ (Fuels.execS procs n inner hi back r)
    unfold assertM holdsM
    rw [Mo.seq_assoc]
    refine Fuels.step (Fuels.seq (Fuels.value _ fun v => ?_) (Fuels.loop _ _ n (hi _ _) (hi _ _)))
    show Fuels n (if decide (v ≠ 0) = true then okM else fun _ _ => .error 15)
    by_cases h : decide (v ≠ 0) = true
    · rw [if_pos h]; exact Fuels.ok n
    · rw [if_neg h]; exact Fuels.err n 15
  | .loc x e b e' r => Fuels.put back (Fuels.step ((Fuels.value _ fun v => Fuels.lift n _).seq ((hi _ _).seq (Fuels.stepS (Fuels.value _ fun v => Fuels.lift n _))))) (Fuels.execS procs n inner hi back r)
  | .lst x b r => Fuels.put back (Fuels.step ((Fuels.lift n _).seq ((hi _ _).seq (Fuels.stepS (Fuels.lift n _))))) (Fuels.execS procs n inner hi back r)
theorem Fuels.execP (procs : List Pr) : ∀ n back s, Fuels n (Bk.execP procs n back s)
  | 0, _, _ => fun σ f hf => absurd hf (Nat.not_lt_zero _)
  | n + 1, back, s => Fuels.execS procs n (Bk.execP procs n) (fun b s => Fuels.execP procs n b s) back s
theorem run_less {p : Pg} {back : Bool} {cells : List (List Int)} {inp out : List Int} {k f : Nat} {σ : PSt} (hk : k ≤ 2000) (h : runP p back cells inp out k = .ok (σ, f)) (hs : 0 < k - f) : f ≤ k ∧ runP p back cells inp out (k - f - 1) = .error 18 := by
  unfold runP at h ⊢
  obtain ⟨h1, h2⟩ := Fuels.execP p.procs 2001 back p.main _ k (by omega) σ f h
  exact ⟨h1, (h2 (k - f - 1) (by omega)).2 (by omega)⟩
end Bk
