/- EgW NmC WhB. -/
import Derived.Test.YtakfdnnlhjhcfaaGreatDoorM4
set_option linter.unusedVariables false
set_option linter.unusedSimpArgs false
set_option linter.unusedSimpArgs false
set_option maxRecDepth 100000
set_option maxHeartbeats 4000000
namespace Bk
open Go Go.RowKit
def IntsAt (w : World) (B : Nat) (A : Option Addr) (l : List Int) : Prop := ∀ i (h : i < l.length), ∃ g o, A = some ⟨g, o, none⟩ ∧ g < B ∧ w.cell? ⟨g, o + i, none⟩ = some (.int .i64 l[i])
theorem IntsAt.next {w w' : World} {B : Nat} {A : Option Addr} {l : List Int} (h : IntsAt w B A l) (hb : Below B w w') : IntsAt w' B A l := fun i hi => by
  obtain ⟨g, o, h1, h2, h3⟩ := h i hi
  exact ⟨g, o, h1, h2, (hb.cell (p := ⟨g, o + i, none⟩) h2).trans h3⟩
def CsAt (w : World) (B : Nat) (A : Option Addr) (l : List (List Int)) : Prop := ∀ i c, l[i]? = some c → ∃ g o A' cap, A = some ⟨g, o, none⟩ ∧ g < B ∧ w.cell? ⟨g, o + i, none⟩ = some (.slice A' c.length cap) ∧ c.length ≤ cap ∧ (A' = none → cap = 0) ∧ IntsAt w B A' c
theorem CsAt.next {w w' : World} {B : Nat} {A : Option Addr} {l : List (List Int)} (h : CsAt w B A l) (hb : Below B w w') : CsAt w' B A l := fun i c hi => by
  obtain ⟨g, o, A', cap, h1, h2, h3, h4, h5, h6⟩ := h i c hi
  exact ⟨g, o, A', cap, h1, h2, (hb.cell (p := ⟨g, o + i, none⟩) h2).trans h3, h4, h5, h6.next hb⟩
def Vr.fixed (v : Vr) : Int := if v.k = 1 then 1 else v.len
def Vr.Ok (v : Vr) : Prop := ((v.k = 1 ∨ v.k = 3) ∧ v.len = 0) ∨ (v.k = 2 ∧ 1 ≤ v.len ∧ v.len ≤ 16)
structure FitS (vs : List Vr) (cs : List (List Int)) : Prop where
  le : vs.length ≤ 32
  ok : ∀ v ∈ vs, v.Ok
  len : cs.length = vs.length
  stk : ∀ (i : Nat) (v : Vr) (c : List Int), vs[i]? = some v → cs[i]? = some c → v.k = 3 → c.length ≤ 1000
  fix : ∀ (i : Nat) (v : Vr) (c : List Int), vs[i]? = some v → cs[i]? = some c → v.k ≠ 3 → (c.length : Int) = v.fixed
end Bk
namespace Go.Proofs.YtakfdnnlhjhcfaaGreatDoor
open Go.RowKit Bk
end Go.Proofs.YtakfdnnlhjhcfaaGreatDoor
namespace Bk
open Go Go.RowKit
structure PlainK (k : Int) (n : Nat) (y : Nd) : Prop where
  k : y.k = k
  num : y.num = 0
  nm : y.nm.toList.isEmpty = true
  n : y.n = n
structure IfAt (w : World) (B : Nat) (i x : Nd) : Prop where
  p : PlainK 52 4 i
  k0 : Kid w B i 0 x
  k1 : ∃ b, Kid w B i 1 b ∧ PlainK 57 0 b
  k2 : ∃ b, Kid w B i 2 b ∧ PlainK 57 0 b
  k3 : Kid w B i 3 x
structure MainAt (w : World) (B : Nat) (m x : Nd) : Prop where
  p : PlainK 57 1 m
  k0 : ∃ i, Kid w B m 0 i ∧ IfAt w B i x
def declB (nb : ByteArray → Bool) (v : Vr) : Bool := nb v.nm && (if v.k = 1 ∨ v.k = 3 then decide (v.len = 0) else if v.k = 2 then decide (1 ≤ v.len ∧ v.len ≤ 16) else false)
end Bk
namespace Go.Proofs.YtakfdnnlhjhcfaaGreatDoor
section
open Go.RowKit Bk
theorem e_isBody {w : World} {B : Nat} (hBw : B ≤ w.heap.size) (m : Nd) {R : Nat → Nat → Bool → Nat → Prop} (hl : LimOk w B m R) (rB : Bool) (hib : ∀ W, Below B w W → Calls Tryz.prog 54 #[.agg #[.int .u8 m.k, .int .i64 m.num, .string m.nm, .slice m.A m.n m.cap]] W fun en w'' => en = .returned (.bool rB) ∧ Below W.heap.size W w'') (w' : World) (hb : Below B w w') :
    Calls Tryz.prog 28 #[.agg #[.int .u8 m.k, .int .i64 m.num, .string m.nm, .slice m.A m.n m.cap]] w' fun en w'' => (∃ b lf, R 80 2000 b lf ∧ en = .returned (.bool (b && rB))) ∧ Below w'.heap.size w' w'' := by
  have HL : Hid (∀ W bl, Below B w W → B ≤ bl → Blk W bl 3 #[.int .i64 2000] → Calls Tryz.prog 53 #[.agg #[.int .u8 m.k, .int .i64 m.num, .string m.nm, .slice m.A m.n m.cap], .int .i64 80, .pointer (some ⟨bl, 0, none⟩)] W fun en w'' => ∃ (b : Bool) (lf' : Nat), en = .returned (.bool b) ∧ lf' ≤ 2000 ∧ R 80 2000 b lf' ∧ Blk w'' bl 3 #[.int .i64 (lf' : Int)] ∧ Fr (fun k => k = bl) W w'') := Lib.hid fun W bl h1 h2 h3 => hl 80 2000 (by omega) (by omega) W bl h1 h2 h3
  have HI := Lib.hid hib; have HB := Lib.hid hb
  have hBw' : B ≤ w'.heap.size := by have := hb.size; omega
  clear hl hib hb
  obtain ⟨k, num, nm, A, n, cap⟩ := m
  dsimp only at *
  go_enter Tryz.func28, Tryz.ntmps28
  go_upto_region 2 with fail
  refine wp_nameE ?_
  intro w1 hw1
  have hb1 : Below w'.heap.size w' w1 := by rw [hw1]; exact (by go_grown)
  have K1 : Blk w1 w'.heap.size 26 #[.int .u8 k, .int .i64 num, .string nm, .slice A n cap] := by rw [hw1]; exact (by repeat' (first | assumption | exact Blk.new' (by simp) _ _ | apply Blk.alloc | apply Blk.drew))
  have KL : Blk w1 (w'.heap.size + 1) 3 #[.int .i64 2000] := by rw [hw1]; exact Blk.new' (by simp) _ _
  have HK1 := Lib.hid K1; have HB1 := Lib.hid hb1; have HKL := Lib.hid KL
  clear hw1 hb1 KL
  obtain ⟨z_1, T_1, F_1⟩ := K1.open_
  clear K1
  go_wp2_with fail
  refine (HL.out w1 (w'.heap.size + 1) (HB.out.trans (HB1.out.mono hBw')) (by omega) HKL.out).mono ?_
  rintro en w2 ⟨b, lf, rfl, _, hR, _, hf2⟩
  have hb2 : Below w'.heap.size w' w2 := HB1.out.trans (hf2.below (by have := HB1.out.size; omega) (fun k hk => by omega))
  have HB2 := Lib.hid hb2; have HR := Lib.hid hR
  have K2 := hf2.blk HK1.out (by show ¬ w'.heap.size = w'.heap.size + 1; omega)
  clear T_1 z_1 F_1 hb2 hf2 hR
  obtain ⟨z_1, T_1, F_1⟩ := K2.open_
  clear K2
  cases b with
  | false =>
    go_wp2_with fail
    go_ret
    exact ⟨⟨false, lf, HR.out, by simp⟩, HB2.out⟩
  | true =>
    go_wp2_with fail
    refine (HI.out w2 (HB.out.trans (HB2.out.mono hBw'))).mono ?_
    rintro en w3 ⟨rfl, hb3⟩
    have HB3 := Lib.hid (HB2.out.next hb3)
    clear T_1 z_1 F_1 hb3
    go_wp2_with fail
    go_ret
    exact ⟨⟨true, lf, HR.out, by simp⟩, HB3.out⟩
theorem e_declared {w : World} {B : Nat} (hBw : B ≤ w.heap.size) (V : Option Addr) (nv cv : Nat) (vs : List Vr) (hv : VsAt w B V vs) (hnv : vs.length = nv) (hnv2 : nv ≤ 17592186043904) (r : Bool) (hr : r = true ↔ ∀ v ∈ vs, declB nameB v = true) (w' : World) (hb : Below B w w') :
    Calls Tryz.prog 26 #[.slice V nv cv] w' fun en w'' => en = .returned (.bool r) ∧ Below w'.heap.size w' w'' := by
  have HV := Lib.hid hv; have HNV := Lib.hid hnv; have HB := Lib.hid hb; have HR := Lib.hid hr
  clear hv hnv hb hr
  go_enter Tryz.func26, Tryz.ntmps26
  go_wp2_with fail
  go_loopw [7] (fun v7 wr => ∃ j : Nat, j ≤ nv ∧ v7 = .int .i64 j ∧ (∀ i v, i < j → vs[i]? = some v → declB nameB v = true) ∧ Below w'.heap.size w' wr) (fun v _ => nv - (intOf v).toNat)
  case atStart => exact ⟨0, Nat.zero_le _, rfl, (fun i v hi => absurd hi (Nat.not_lt_zero _)), Below.refl _ _⟩
  case round =>
    obtain ⟨j, hj, rfl, hpre, hbr⟩ := hrel
    have HP := Lib.hid hpre; have HBR := Lib.hid hbr
    clear hpre
    by_cases hjn : j < nv
    · obtain ⟨v, hvj⟩ : ∃ v, vs[j]? = some v := ⟨_, List.getElem?_eq_getElem (by have := HNV.out; omega)⟩
      obtain ⟨g, o, hA2, hgB, c0, c1, c2⟩ := (HV.out.next HB.out) j v hvj
      subst hA2
      have hgw : g < w'.heap.size := by have := HB.out.size; omega
      have d0 := (hbr.cell (p := ⟨g, o + j * 3, none⟩) hgw).trans c0
      have d1 := (hbr.cell (p := ⟨g, o + j * 3 + 1, none⟩) hgw).trans c1
      have d2 := (hbr.cell (p := ⟨g, o + j * 3 + 2, none⟩) hgw).trans c2
      have HF : Hid (declB nameB v = false → r = false) := Lib.hid fun h => by
        cases r with
        | false => rfl
        | true => have := HR.out.1 rfl v (List.mem_of_getElem? hvj); rw [h] at this; cases this
      have HS : Hid (declB nameB v = true → ∀ i u, i < j + 1 → vs[i]? = some u → declB nameB u = true) := Lib.hid fun h i u hi hu => (Nat.lt_succ_iff_lt_or_eq.1 hi).elim (fun h1 => HP.out i u h1 hu) (fun h1 => by subst h1; rw [hvj] at hu; injection hu with hu; subst hu; exact h)
      obtain ⟨nm, k, len⟩ := v
      dsimp only at d0 d1 d2
      have j0 : (0 : Int) ≤ (j : Int) := by omega
      have j1 : (j : Int) < (nv : Int) := by omega
      clear c0 c1 c2 hvj hbr
      go_upto_region 4 with fail
      refine wp_nameE ?_
      intro w2 hw2
      have hb2 : Below wr.heap.size wr w2 := by rw [hw2]; exact (by go_grown)
      have K2 : Blk w2 wr.heap.size 72 #[.string nm, .int .u8 k, .int .i64 len] := by rw [hw2]; exact (by repeat' (first | assumption | exact Blk.new' (by simp) _ _ | apply Blk.alloc | apply Blk.drew))
      have HB2 := Lib.hid (HBR.out.next hb2); have HK2 := Lib.hid K2
      clear hw2 d0 d1 d2 hb2
      obtain ⟨z_2, T_2, F_2⟩ := K2.open_
      clear K2
      go_wp2_with fail
      refine (e_Name nm w2).mono ?_
      rintro en w3 ⟨rfl, hb3⟩
      have HB3 := Lib.hid (HB2.out.next hb3); have K3 := HK2.out.next hb3
      clear T_2 z_2 F_2 hb3
      obtain ⟨z_2, T_2, F_2⟩ := K3.open_
      clear K3
      unfold declB at HF HS
      dsimp only at HF HS
      obtain ⟨nb, hnb⟩ : ∃ nb, nameB nm = nb := ⟨_, rfl⟩
      rw [hnb] at HF HS ⊢
      clear hnb
      cases nb with
      | false =>
        obtain rfl : r = false := HF.out (by simp)
        go_wp2_with fail
        go_ret
        exact ⟨rfl, HB3.out⟩
      | true =>
        by_cases h13 : k = 1 ∨ k = 3
        · by_cases hl : len = 0
          · subst hl
            have HS2 := Lib.hid (HS.out (by rw [if_pos h13]; simp))
            clear HS HF
            rcases h13 with rfl | rfl
            · go_wp2_with fail
              exact ⟨⟨j + 1, by omega, by go_num, HS2.out, HB3.out⟩, by simp [intOf]; omega⟩
            · go_wp2_with fail
              exact ⟨⟨j + 1, by omega, by go_num, HS2.out, HB3.out⟩, by simp [intOf]; omega⟩
          · obtain rfl : r = false := HF.out (by rw [if_pos h13]; simp [hl])
            have hl' : (len != 0) = true := by simpa using hl
            clear HS HF
            rcases h13 with rfl | rfl
            · go_wp2_with fail
              go_ret
              exact ⟨rfl, HB3.out⟩
            · go_wp2_with fail
              go_ret
              exact ⟨rfl, HB3.out⟩
        · by_cases h2 : k = 2
          · subst h2
            by_cases hl : 1 ≤ len ∧ len ≤ 16
            · have HS2 := Lib.hid (HS.out (by rw [if_neg h13, if_pos rfl]; simp [hl]))
              have l1 : decide (len < 1) = false := by simp; omega
              have l2 : decide (16 < len) = false := by simp; omega
              clear HS HF
              go_wp2_with fail
              exact ⟨⟨j + 1, by omega, by go_num, HS2.out, HB3.out⟩, by simp [intOf]; omega⟩
            · obtain rfl : r = false := HF.out (by rw [if_neg h13, if_pos rfl]; simpa using hl)
              clear HS HF
              by_cases l1 : len < 1
              · have l1' : decide (len < 1) = true := by simpa using l1
                go_wp2_with fail
                go_ret
                exact ⟨rfl, HB3.out⟩
              · have l1' : decide (len < 1) = false := by simpa using l1
                have l2 : decide (16 < len) = true := by simp; omega
                go_wp2_with fail
                go_ret
                exact ⟨rfl, HB3.out⟩
          · obtain rfl : r = false := HF.out (by rw [if_neg h13, if_neg h2]; rfl)
            have e1 : (k == 1) = false := by simp; omega
            have e2 : (k == 2) = false := by simpa using h2
            have e3 : (k == 3) = false := by simp; omega
            clear HS HF
            go_wp2_with fail
            go_ret
            exact ⟨rfl, HB3.out⟩
    · obtain rfl : j = nv := by omega
      obtain rfl : r = true := HR.out.2 fun v hv => by
        obtain ⟨i, hi⟩ := List.getElem?_of_mem hv
        exact HP.out i v (by have := (List.getElem?_eq_some_iff.1 hi).1; have := HNV.out; omega) hi
      go_wp2_with fail
      go_ret
      exact ⟨rfl, HBR.out⟩
end
section
open Go.RowKit Bk
open Classical in
noncomputable def kidN (w : World) (B : Nat) (x : Nd) (i : Nat) : Nd := if h : ∃ y, Kid w B x i y then Classical.choose h else ⟨0, 0, ⟨#[]⟩, none, 0, 0⟩
theorem kidN_eq {w : World} {B i : Nat} {x y : Nd} (h : Kid w B x i y) : kidN w B x i = y := by
  unfold kidN
  rw [dif_pos ⟨y, h⟩]
  exact Kid.one (Classical.choose_spec (⟨y, h⟩ : ∃ y, Kid w B x i y)) h
theorem kidN_kid {w : World} {B d i : Nat} {x : Nd} (h : KV w B (d + 1) x) (hi : i < x.n) : Kid w B x i (kidN w B x i) ∧ KV w B d (kidN w B x i) := by
  obtain ⟨_, _, _, _, _, hk⟩ := h
  obtain ⟨y, h1, h2⟩ := hk i hi
  rw [kidN_eq h1]; exact ⟨h1, h2⟩
open Classical in
noncomputable def exB (w : World) (B : Nat) (x : Nd) : Bool := decide (IsE w B nameB x)
noncomputable def plB (w : World) (B : Nat) (x : Nd) : Bool := (decide (x.k = 2) || decide (x.k = 3)) && exB w B x
noncomputable def varB (w : World) (B : Nat) (x : Nd) : Bool := decide (x.k = 2) && exB w B x
def plainB (x : Nd) : Bool := decide (x.num = 0) && x.nm.toList.isEmpty
def namedB (x : Nd) : Bool := decide (x.num = 0) && nameB x.nm
inductive Ts where
  | ex | pl | bl
deriving DecidableEq
mutual
noncomputable def stB (w : World) (B : Nat) : Nat → Nd → Bool
  | 0, _ => false
  | d + 1, x =>
    let kids := fun (m : Nat) (t : Nat → Nd → Bool) => decide (x.n = m) && allTo (fun i => t i (kidN w B x i)) m
    if x.k = 40 ∨ x.k = 41 ∨ x.k = 42 ∨ x.k = 56 then plainB x && kids 2 (fun i y => if i = 0 then plB w B y else exB w B y)
    else if x.k = 43 then plainB x && kids 2 (fun _ y => plB w B y)
    else if x.k = 44 ∨ x.k = 45 then namedB x && kids 1 (fun _ y => plB w B y)
    else if x.k = 46 ∨ x.k = 47 ∨ x.k = 48 ∨ x.k = 49 then plainB x && kids 1 (fun _ y => plB w B y)
    else if x.k = 50 ∨ x.k = 51 then namedB x && (decide (x.n ≤ 8) && allTo (fun i => varB w B (kidN w B x i)) x.n)
    else if x.k = 52 ∨ x.k = 53 then plainB x && kids 4 (fun i y => if i = 0 ∨ i = 3 then exB w B y else blB w B d y)
    else if x.k = 54 then namedB x && kids 3 (fun i y => if i = 1 then blB w B d y else exB w B y)
    else if x.k = 55 then namedB x && kids 1 (fun _ y => blB w B d y)
    else false
noncomputable def blB (w : World) (B : Nat) : Nat → Nd → Bool
  | 0, _ => false
  | d + 1, x => decide (x.k = 57) && (plainB x && allTo (fun i => stB w B d (kidN w B x i)) x.n)
end
theorem e_exB {w : World} {B d : Nat} (hBw : B ≤ w.heap.size) (x : Nd) (hx : KV w B d x) (w' : World) (hb : Below B w w') :
    Calls Tryz.prog 122 #[.agg #[.int .u8 x.k, .int .i64 x.num, .string x.nm, .slice x.A x.n x.cap]] w' fun en w'' => en = .returned (.bool (exB w B x)) ∧ Below w'.heap.size w' w'' :=
  e_IsExpr hBw d x hx w' hb _ (by simp [exB])
theorem e_IsPlace {w : World} {B d : Nat} (hBw : B ≤ w.heap.size) (x : Nd) (hx : KV w B d x) (w' : World) (hb : Below B w w') :
    Calls Tryz.prog 121 #[.agg #[.int .u8 x.k, .int .i64 x.num, .string x.nm, .slice x.A x.n x.cap]] w' fun en w'' => en = .returned (.bool (plB w B x)) ∧ Below w'.heap.size w' w'' := by
  have HE : Hid (∀ W, Below B w W → Calls Tryz.prog 122 #[.agg #[.int .u8 x.k, .int .i64 x.num, .string x.nm, .slice x.A x.n x.cap]] W fun en w'' => en = .returned (.bool (exB w B x)) ∧ Below W.heap.size W w'') := Lib.hid fun W hW => e_exB hBw x hx W hW
  have HB := Lib.hid hb
  have hBw' : B ≤ w'.heap.size := by have := hb.size; omega
  unfold plB
  obtain ⟨rE, hrE⟩ : ∃ r, exB w B x = r := ⟨_, rfl⟩
  rw [hrE] at HE ⊢
  clear hx hb hrE
  obtain ⟨k, num, nm, A, n, cap⟩ := x
  dsimp only at *
  by_cases h2 : k = 2 ∨ k = 3
  · have e0 : (decide (k = 2) || decide (k = 3)) = true := by simpa using h2
    rw [e0]
    clear e0
    go_enter Tryz.func121, Tryz.ntmps121
    go_upto_region 1 with fail
    refine wp_nameE ?_
    intro w1 hw1
    have hb1 : Below w'.heap.size w' w1 := by rw [hw1]; exact (by go_grown)
    have K1 : Blk w1 w'.heap.size 26 #[.int .u8 k, .int .i64 num, .string nm, .slice A n cap] := by rw [hw1]; exact (by repeat' (first | assumption | exact Blk.new' (by simp) _ _ | apply Blk.alloc | apply Blk.drew))
    have HB1 := Lib.hid hb1
    clear hw1 hb1
    obtain ⟨z_1, T_1, F_1⟩ := K1.open_
    clear K1
    rcases h2 with rfl | rfl
    all_goals
      go_wp2_with fail
      refine (HE.out w1 (HB.out.trans (HB1.out.mono hBw'))).mono ?_
      rintro en w2 ⟨rfl, hb2⟩
      have HB2 := Lib.hid (HB1.out.next hb2)
      clear T_1 z_1 F_1 hb2
      go_wp2_with fail
      go_ret
      exact ⟨by simp, HB2.out⟩
  · have e1 : (k == 2) = false := by simp; omega
    have e2 : (k == 3) = false := by simp; omega
    have e0 : (decide (k = 2) || decide (k = 3)) = false := by simp; omega
    rw [e0]
    go_enter Tryz.func121, Tryz.ntmps121
    go_wp2_with fail
    go_ret
    exact ⟨by simp, by go_grown⟩
theorem e_isVar {w : World} {B d : Nat} (hBw : B ≤ w.heap.size) (x : Nd) (hx : KV w B d x) (w' : World) (hb : Below B w w') :
    Calls Tryz.prog 124 #[.agg #[.int .u8 x.k, .int .i64 x.num, .string x.nm, .slice x.A x.n x.cap]] w' fun en w'' => en = .returned (.bool (varB w B x)) ∧ Below w'.heap.size w' w'' := by
  have HE : Hid (∀ W, Below B w W → Calls Tryz.prog 122 #[.agg #[.int .u8 x.k, .int .i64 x.num, .string x.nm, .slice x.A x.n x.cap]] W fun en w'' => en = .returned (.bool (exB w B x)) ∧ Below W.heap.size W w'') := Lib.hid fun W hW => e_exB hBw x hx W hW
  have HB := Lib.hid hb
  have hBw' : B ≤ w'.heap.size := by have := hb.size; omega
  unfold varB
  obtain ⟨rE, hrE⟩ : ∃ r, exB w B x = r := ⟨_, rfl⟩
  rw [hrE] at HE ⊢
  clear hx hb hrE
  obtain ⟨k, num, nm, A, n, cap⟩ := x
  dsimp only at *
  by_cases h2 : k = 2
  · subst h2
    go_enter Tryz.func124, Tryz.ntmps124
    go_upto_region 1 with fail
    refine wp_nameE ?_
    intro w1 hw1
    have hb1 : Below w'.heap.size w' w1 := by rw [hw1]; exact (by go_grown)
    have K1 : Blk w1 w'.heap.size 26 #[.int .u8 2, .int .i64 num, .string nm, .slice A n cap] := by rw [hw1]; exact (by repeat' (first | assumption | exact Blk.new' (by simp) _ _ | apply Blk.alloc | apply Blk.drew))
    have HB1 := Lib.hid hb1
    clear hw1 hb1
    obtain ⟨z_1, T_1, F_1⟩ := K1.open_
    clear K1
    go_wp2_with fail
    refine (HE.out w1 (HB.out.trans (HB1.out.mono hBw'))).mono ?_
    rintro en w2 ⟨rfl, hb2⟩
    have HB2 := Lib.hid (HB1.out.next hb2)
    clear T_1 z_1 F_1 hb2
    go_wp2_with fail
    go_ret
    exact ⟨by simp, HB2.out⟩
  · have e1 : (k == 2) = false := by simpa using h2
    go_enter Tryz.func124, Tryz.ntmps124
    go_wp2_with fail
    go_ret
    exact ⟨by simp [h2], by go_grown⟩
theorem e_kidsR {w : World} {B : Nat} (hBw : B ≤ w.heap.size) (x : Nd) (m : Nat) (hm : m ≤ 1000) (fn : Nat → FuncId) (r : Nat → Bool) (heg : ∀ i, i < m → ∀ args W, (callFunc (fn i) args).run Tryz.prog W = .ok (.enter (fn i) args) W)
    (hkid : x.n = m → ∀ i, i < m → ∃ y, Kid w B x i y ∧ ∀ W, Below B w W → Calls Tryz.prog (fn i) #[.agg #[.int .u8 y.k, .int .i64 y.num, .string y.nm, .slice y.A y.n y.cap]] W fun en w'' => en = .returned (.bool (r i)) ∧ Below W.heap.size W w'') (w' : World) (hb : Below B w w') (h : Nat) (t : TypeId) (fs : Array Value) (hf : Blk w' h t fs) (hfs : ∀ i, i < m → fs[i]? = some (.func (.func (fn i)) #[] #[])) :
    Calls Tryz.prog 120 #[.agg #[.int .u8 x.k, .int .i64 x.num, .string x.nm, .slice x.A x.n x.cap], .slice (some ⟨h, 0, none⟩) m m] w' fun en w'' => en = .returned (.bool (decide (x.n = m) && allTo r m)) ∧ Below w'.heap.size w' w'' := by
  by_cases hn : x.n = m
  · rw [show (decide (x.n = m)) = true by simpa using hn, Bool.true_and]
    exact e_kidsG hBw x m hn hm fn r heg (hkid hn) w' hb h t fs hf hfs
  · rw [show (decide (x.n = m)) = false by simpa using hn, Bool.false_and]
    obtain ⟨k, num, nm, A, n, cap⟩ := x
    dsimp only at *
    have hn' : ((n : Int) != (m : Int)) = true := by simp; omega
    clear hkid heg hfs hf hb
    go_enter Tryz.func120, Tryz.ntmps120
    go_wp2_with fail
    go_ret
    exact ⟨rfl, by go_grown⟩
end
end Go.Proofs.YtakfdnnlhjhcfaaGreatDoor
