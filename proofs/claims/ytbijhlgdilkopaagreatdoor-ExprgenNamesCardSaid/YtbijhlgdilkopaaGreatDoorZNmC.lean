/- Programs of package ast, as far as the law ExprgenNames lays them. -/
import Derived.Test.YtbijhlgdilkopaaGreatDoorZNmB
import Derived.Test.YtbijhlgdilkopaaGreatDoorEsX
set_option linter.unusedVariables false
set_option linter.unusedSimpArgs false
set_option maxRecDepth 100000
set_option maxHeartbeats 4000000
namespace Bk
open Go Go.RowKit
/-- A node of a kind, without number and name. -/
structure PlainK (k : Int) (n : Nat) (y : Nd) : Prop where
  k : y.k = k
  num : y.num = 0
  nm : y.nm.toList.isEmpty = true
  n : y.n = n
/-- An If of an expression and two empty blocks. -/
structure IfAt (w : World) (B : Nat) (i x : Nd) : Prop where
  p : PlainK 52 4 i
  k0 : Kid w B i 0 x
  k1 : ∃ b, Kid w B i 1 b ∧ PlainK 57 0 b
  k2 : ∃ b, Kid w B i 2 b ∧ PlainK 57 0 b
  k3 : Kid w B i 3 x
/-- .. in a block. -/
structure MainAt (w : World) (B : Nat) (m x : Nd) : Prop where
  p : PlainK 57 1 m
  k0 : ∃ i, Kid w B m 0 i ∧ IfAt w B i x
/-- A valid declaration. -/
def declB (nb : ByteArray → Bool) (v : Vr) : Bool := nb v.nm && (if v.k = 1 ∨ v.k = 3 then decide (v.len = 0) else if v.k = 2 then decide (1 ≤ v.len ∧ v.len ≤ 16) else false)
theorem declB_ok {nb : ByteArray → Bool} {v : Vr} (h : declB nb v = true) : v.Ok := by
  simp only [declB, Bool.and_eq_true] at h
  have h2 := h.2
  unfold Vr.Ok
  split at h2
  · rename_i hk; simp at h2; omega
  · split at h2
    · simp at h2; omega
    · cases h2
end Bk
namespace Go.Proofs.YtbijhlgdilkopaaGreatDoor
open Go.RowKit Bk
theorem e_plainT {y : Nd} {k : Int} {n : Nat} (h : PlainK k n y) (w : World) : Calls Tryz.prog 44 #[.agg #[.int .u8 y.k, .int .i64 y.num, .string y.nm, .slice y.A y.n y.cap]] w fun e w' => e = .returned (.bool true) ∧ Below w.heap.size w w' := by
  have h' := e_plain y w
  rw [show (decide (y.num = 0) && y.nm.toList.isEmpty) = true by rw [h.num, h.nm]; rfl] at h'
  exact h'
/-- A block whose kids are statements as r says. -/
theorem e_IsBlockG {w : World} {B : Nat} (hBw : B ≤ w.heap.size) (x : Nd) {n0 : Nat} (hp : PlainK 57 n0 x) (hn : n0 ≤ 1000) (r : Nat → Bool) (hkid : ∀ i, i < n0 → ∃ y, Kid w B x i y ∧ ∀ W, Below B w W → Calls Tryz.prog 63 #[.agg #[.int .u8 y.k, .int .i64 y.num, .string y.nm, .slice y.A y.n y.cap]] W fun en w'' => en = .returned (.bool (r i)) ∧ Below W.heap.size W w'') (w' : World) (hb : Below B w w') :
    Calls Tryz.prog 34 #[.agg #[.int .u8 x.k, .int .i64 x.num, .string x.nm, .slice x.A x.n x.cap]] w' fun en w'' => en = .returned (.bool (allTo r n0)) ∧ Below w'.heap.size w' w'' := by
  have HP : Hid (∀ W, Calls Tryz.prog 44 #[.agg #[.int .u8 x.k, .int .i64 x.num, .string x.nm, .slice x.A x.n x.cap]] W fun e w' => e = .returned (.bool true) ∧ Below W.heap.size W w') := Lib.hid fun W => e_plainT hp W
  have HE : Hid (∀ W, Below B w W → Calls Tryz.prog 62 #[.slice x.A x.n x.cap, .func (.func 63) #[] #[]] W fun en w'' => en = .returned (.bool (allTo r n0)) ∧ Below W.heap.size W w'') := Lib.hid fun W hW => by
    have h := e_everyS hBw x (by rw [hp.n]; exact hn) r (fun i hi => hkid i (by rw [hp.n] at hi; exact hi)) W hW
    rw [hp.n] at h ⊢; exact h
  obtain ⟨rr, hrr⟩ : ∃ rr, allTo r n0 = rr := ⟨_, rfl⟩
  rw [hrr] at HE ⊢
  have hk := hp.k
  have HB := Lib.hid hb
  have hBw' : B ≤ w'.heap.size := by have := hb.size; omega
  clear hp hkid hb hrr
  obtain ⟨k, num, nm, A, n, cap⟩ := x
  dsimp only at *
  subst hk
  go_enter Tryz.func34, Tryz.ntmps34
  go_upto_region 1 with fail
  refine wp_nameE ?_
  intro w1 hw1
  have hb1 : Below w'.heap.size w' w1 := by rw [hw1]; exact (by go_grown)
  have K1 : Blk w1 w'.heap.size 24 #[.int .u8 57, .int .i64 num, .string nm, .slice A n cap] := by rw [hw1]; exact (by repeat' (first | assumption | exact Blk.new' (by simp) _ _ | apply Blk.alloc | apply Blk.drew))
  have HK1 := Lib.hid K1; have HB1 := Lib.hid hb1
  clear hw1 hb1
  obtain ⟨z_1, T_1, F_1⟩ := K1.open_
  clear K1
  go_wp2_with fail
  refine (HP.out w1).mono ?_
  rintro en w2 ⟨rfl, hb2⟩
  have HB2 := Lib.hid (HB1.out.next hb2); have K2 := HK1.out.next hb2
  clear T_1 z_1 F_1 hb2
  obtain ⟨z_1, T_1, F_1⟩ := K2.open_
  clear K2
  go_wp2_with fail
  refine (HE.out w2 (HB.out.trans (HB2.out.mono hBw'))).mono ?_
  rintro en w3 ⟨rfl, hb3⟩
  have HB3 := Lib.hid (HB2.out.next hb3)
  clear T_1 z_1 F_1 hb3
  go_wp2_with fail
  go_ret
  exact ⟨by simp, HB3.out⟩
def ifFn (i : Nat) : FuncId := if i = 0 ∨ i = 3 then 24 else 34
theorem e_IsStmtIf {w : World} {B : Nat} (hBw : B ≤ w.heap.size) {x y : Nd} (hi : IfAt w B y x) (rE : Bool) (hE : ∀ W, Below B w W → Calls Tryz.prog 24 #[.agg #[.int .u8 x.k, .int .i64 x.num, .string x.nm, .slice x.A x.n x.cap]] W fun en w'' => en = .returned (.bool rE) ∧ Below W.heap.size W w'') (w' : World) (hb : Below B w w') :
    Calls Tryz.prog 63 #[.agg #[.int .u8 y.k, .int .i64 y.num, .string y.nm, .slice y.A y.n y.cap]] w' fun en w'' => en = .returned (.bool rE) ∧ Below w'.heap.size w' w'' := by
  have HP : Hid (∀ W, Calls Tryz.prog 44 #[.agg #[.int .u8 y.k, .int .i64 y.num, .string y.nm, .slice y.A y.n y.cap]] W fun e w' => e = .returned (.bool true) ∧ Below W.heap.size W w') := Lib.hid fun W => e_plainT hi.p W
  have hblk : ∀ b, PlainK 57 0 b → ∀ W, Below B w W → Calls Tryz.prog 34 #[.agg #[.int .u8 b.k, .int .i64 b.num, .string b.nm, .slice b.A b.n b.cap]] W fun en w'' => en = .returned (.bool true) ∧ Below W.heap.size W w'' := fun b h W hW => e_IsBlockG hBw b h (by omega) (fun _ => true) (fun i hi => absurd hi (Nat.not_lt_zero _)) W hW
  have HKS : Hid (∀ W, Below B w W → ∀ h t, Blk W h t #[.func (.func 24) #[] #[], .func (.func 34) #[] #[], .func (.func 34) #[] #[], .func (.func 24) #[] #[]] → Calls Tryz.prog 43 #[.agg #[.int .u8 y.k, .int .i64 y.num, .string y.nm, .slice y.A y.n y.cap], .slice (some ⟨h, 0, none⟩) 4 4] W fun en w'' => en = .returned (.bool rE) ∧ Below W.heap.size W w'') := Lib.hid fun W hW h t hf => by
    have h := e_kidsG hBw y 4 hi.p.n (by omega) ifFn (fun i => if i = 0 ∨ i = 3 then rE else true) (fun i hi args W => by unfold ifFn; split <;> rfl) (fun i hi4 => by
      match i, hi4 with
      | 0, _ => exact ⟨x, hi.k0, hE⟩
      | 1, _ => obtain ⟨b, h1, h2⟩ := hi.k1; exact ⟨b, h1, hblk b h2⟩
      | 2, _ => obtain ⟨b, h1, h2⟩ := hi.k2; exact ⟨b, h1, hblk b h2⟩
      | 3, _ => exact ⟨x, hi.k3, hE⟩) W hW h t _ hf (fun i hi4 => by
      match i, hi4 with
      | 0, _ => rfl
      | 1, _ => rfl
      | 2, _ => rfl
      | 3, _ => rfl)
    rw [show allTo (fun i => if i = 0 ∨ i = 3 then rE else true) 4 = rE by cases rE <;> rfl] at h
    exact h
  have hk := hi.p.k
  have HB := Lib.hid hb
  have hBw' : B ≤ w'.heap.size := by have := hb.size; omega
  clear hi hE hb hblk
  obtain ⟨k, num, nm, A, n, cap⟩ := y
  dsimp only at *
  subst hk
  go_enter Tryz.func63, Tryz.ntmps63
  go_upto_region 1 with fail
  refine wp_nameE ?_
  intro w1 hw1
  have hb1 : Below w'.heap.size w' w1 := by rw [hw1]; exact (by go_grown)
  have K1 : Blk w1 w'.heap.size 24 #[.int .u8 52, .int .i64 num, .string nm, .slice A n cap] := by rw [hw1]; exact (by repeat' (first | assumption | exact Blk.new' (by simp) _ _ | apply Blk.alloc | apply Blk.drew))
  have HK1 := Lib.hid K1; have HB1 := Lib.hid hb1
  clear hw1 hb1
  obtain ⟨z_1, T_1, F_1⟩ := K1.open_
  clear K1
  go_wp2_with fail
  refine (HP.out w1).mono ?_
  rintro en w2 ⟨rfl, hb2⟩
  have HB2 := Lib.hid (HB1.out.next hb2); have K2 := HK1.out.next hb2
  clear T_1 z_1 F_1 hb2
  obtain ⟨z_1, T_1, F_1⟩ := K2.open_
  clear K2
  go_wp2_with fail
  refine (HKS.out _ ((HB.out.trans (HB2.out.mono hBw')).trans ((Below.refl _ _).alloc (by have := HB2.out.size; omega) _)) _ _ (Blk.new _ _ _)).mono ?_
  rintro en w3 ⟨rfl, hb3⟩
  have HB3 : Hid (Below w'.heap.size w' w3) := Lib.hid (HB2.out.next (((Below.refl _ _).alloc (Nat.le_refl _) _).next hb3))
  clear T_1 z_1 F_1 hb3
  go_wp2_with fail
  go_ret
  exact ⟨by simp, HB3.out⟩
theorem e_isBody {w : World} {B : Nat} (hBw : B ≤ w.heap.size) (m : Nd) {R : Nat → Nat → Bool → Nat → Prop} (hl : LimOk w B m R) (rB : Bool) (hib : ∀ W, Below B w W → Calls Tryz.prog 34 #[.agg #[.int .u8 m.k, .int .i64 m.num, .string m.nm, .slice m.A m.n m.cap]] W fun en w'' => en = .returned (.bool rB) ∧ Below W.heap.size W w'') (w' : World) (hb : Below B w w') :
    Calls Tryz.prog 16 #[.agg #[.int .u8 m.k, .int .i64 m.num, .string m.nm, .slice m.A m.n m.cap]] w' fun en w'' => (∃ b lf, R 80 2000 b lf ∧ en = .returned (.bool (b && rB))) ∧ Below w'.heap.size w' w'' := by
  have HL : Hid (∀ W bl, Below B w W → B ≤ bl → Blk W bl 3 #[.int .i64 2000] → Calls Tryz.prog 33 #[.agg #[.int .u8 m.k, .int .i64 m.num, .string m.nm, .slice m.A m.n m.cap], .int .i64 80, .pointer (some ⟨bl, 0, none⟩)] W fun en w'' => ∃ (b : Bool) (lf' : Nat), en = .returned (.bool b) ∧ lf' ≤ 2000 ∧ R 80 2000 b lf' ∧ Blk w'' bl 3 #[.int .i64 (lf' : Int)] ∧ Fr (fun k => k = bl) W w'') := Lib.hid fun W bl h1 h2 h3 => hl 80 2000 (by omega) (by omega) W bl h1 h2 h3
  have HI := Lib.hid hib; have HB := Lib.hid hb
  have hBw' : B ≤ w'.heap.size := by have := hb.size; omega
  clear hl hib hb
  obtain ⟨k, num, nm, A, n, cap⟩ := m
  dsimp only at *
  go_enter Tryz.func16, Tryz.ntmps16
  go_upto_region 2 with fail
  refine wp_nameE ?_
  intro w1 hw1
  have hb1 : Below w'.heap.size w' w1 := by rw [hw1]; exact (by go_grown)
  have K1 : Blk w1 w'.heap.size 24 #[.int .u8 k, .int .i64 num, .string nm, .slice A n cap] := by rw [hw1]; exact (by repeat' (first | assumption | exact Blk.new' (by simp) _ _ | apply Blk.alloc | apply Blk.drew))
  have KL : Blk w1 (w'.heap.size + 1) 3 #[.int .i64 2000] := by rw [hw1]; exact Blk.new' (by simp) _ _
  have HK1 := Lib.hid K1; have HB1 := Lib.hid hb1; have HKL := Lib.hid KL
  clear hw1 hb1 KL
  obtain ⟨z_1, T_1, F_1⟩ := K1.open_
  clear K1
  go_wp2_with fail
  refine (HL.out w1 (w'.heap.size + 1) (HB.out.trans (HB1.out.mono hBw')) (by omega) HKL.out).mono ?_
  rintro en w2 ⟨b, lf, rfl, _, hR, _, hf2⟩
  have hb2 : Below w'.heap.size w' w2 := HB1.out.trans (hf2.below (by have := HB1.out.size; omega) (fun k hk => by omega))
  have HB2 := Lib.hid hb2; have HR := Lib.hid hR
  have K2 := hf2.blk HK1.out (by show ¬ w'.heap.size = w'.heap.size + 1; omega)
  clear T_1 z_1 F_1 hb2 hf2 hR
  obtain ⟨z_1, T_1, F_1⟩ := K2.open_
  clear K2
  cases b with
  | false =>
    go_wp2_with fail
    go_ret
    exact ⟨⟨false, lf, HR.out, by simp⟩, HB2.out⟩
  | true =>
    go_wp2_with fail
    refine (HI.out w2 (HB.out.trans (HB2.out.mono hBw'))).mono ?_
    rintro en w3 ⟨rfl, hb3⟩
    have HB3 := Lib.hid (HB2.out.next hb3)
    clear T_1 z_1 F_1 hb3
    go_wp2_with fail
    go_ret
    exact ⟨⟨true, lf, HR.out, by simp⟩, HB3.out⟩
theorem e_declared {w : World} {B : Nat} (hBw : B ≤ w.heap.size) (V : Option Addr) (nv cv : Nat) (vs : List Vr) (hv : VsAt w B V vs) (hnv : vs.length = nv) (hnv2 : nv ≤ 1000000) (r : Bool) (hr : r = true ↔ ∀ v ∈ vs, declB nameB v = true) (w' : World) (hb : Below B w w') :
    Calls Tryz.prog 14 #[.slice V nv cv] w' fun en w'' => en = .returned (.bool r) ∧ Below w'.heap.size w' w'' := by
  have HV := Lib.hid hv; have HNV := Lib.hid hnv; have HB := Lib.hid hb; have HR := Lib.hid hr
  clear hv hnv hb hr
  go_enter Tryz.func14, Tryz.ntmps14
  go_wp2_with fail
  go_loopw [7] (fun v7 wr => ∃ j : Nat, j ≤ nv ∧ v7 = .int .i64 j ∧ (∀ i v, i < j → vs[i]? = some v → declB nameB v = true) ∧ Below w'.heap.size w' wr) (fun v _ => nv - (intOf v).toNat)
  case atStart => exact ⟨0, Nat.zero_le _, rfl, (fun i v hi => absurd hi (Nat.not_lt_zero _)), Below.refl _ _⟩
  case round =>
    obtain ⟨j, hj, rfl, hpre, hbr⟩ := hrel
    have HP := Lib.hid hpre; have HBR := Lib.hid hbr
    clear hpre
    by_cases hjn : j < nv
    · obtain ⟨v, hvj⟩ : ∃ v, vs[j]? = some v := ⟨_, List.getElem?_eq_getElem (by have := HNV.out; omega)⟩
      obtain ⟨g, o, hA2, hgB, c0, c1, c2⟩ := (HV.out.next HB.out) j v hvj
      subst hA2
      have hgw : g < w'.heap.size := by have := HB.out.size; omega
      have d0 := (hbr.cell (p := ⟨g, o + j * 3, none⟩) hgw).trans c0
      have d1 := (hbr.cell (p := ⟨g, o + j * 3 + 1, none⟩) hgw).trans c1
      have d2 := (hbr.cell (p := ⟨g, o + j * 3 + 2, none⟩) hgw).trans c2
      have HF : Hid (declB nameB v = false → r = false) := Lib.hid fun h => by
        cases r with
        | false => rfl
        | true => have := HR.out.1 rfl v (List.mem_of_getElem? hvj); rw [h] at this; cases this
      have HS : Hid (declB nameB v = true → ∀ i u, i < j + 1 → vs[i]? = some u → declB nameB u = true) := Lib.hid fun h i u hi hu => (Nat.lt_succ_iff_lt_or_eq.1 hi).elim (fun h1 => HP.out i u h1 hu) (fun h1 => by subst h1; rw [hvj] at hu; injection hu with hu; subst hu; exact h)
      obtain ⟨nm, k, len⟩ := v
      dsimp only at d0 d1 d2
      have j0 : (0 : Int) ≤ (j : Int) := by omega
      have j1 : (j : Int) < (nv : Int) := by omega
      clear c0 c1 c2 hvj hbr
      go_upto_region 4 with fail
      refine wp_nameE ?_
      intro w2 hw2
      have hb2 : Below wr.heap.size wr w2 := by rw [hw2]; exact (by go_grown)
      have K2 : Blk w2 wr.heap.size 45 #[.string nm, .int .u8 k, .int .i64 len] := by rw [hw2]; exact (by repeat' (first | assumption | exact Blk.new' (by simp) _ _ | apply Blk.alloc | apply Blk.drew))
      have HB2 := Lib.hid (HBR.out.next hb2); have HK2 := Lib.hid K2
      clear hw2 d0 d1 d2 hb2
      obtain ⟨z_2, T_2, F_2⟩ := K2.open_
      clear K2
      go_wp2_with fail
      refine (e_Name nm w2).mono ?_
      rintro en w3 ⟨rfl, hb3⟩
      have HB3 := Lib.hid (HB2.out.next hb3); have K3 := HK2.out.next hb3
      clear T_2 z_2 F_2 hb3
      obtain ⟨z_2, T_2, F_2⟩ := K3.open_
      clear K3
      unfold declB at HF HS
      dsimp only at HF HS
      obtain ⟨nb, hnb⟩ : ∃ nb, nameB nm = nb := ⟨_, rfl⟩
      rw [hnb] at HF HS ⊢
      clear hnb
      cases nb with
      | false =>
        obtain rfl : r = false := HF.out (by simp)
        go_wp2_with fail
        go_ret
        exact ⟨rfl, HB3.out⟩
      | true =>
        by_cases h13 : k = 1 ∨ k = 3
        · by_cases hl : len = 0
          · subst hl
            have HS2 := Lib.hid (HS.out (by rw [if_pos h13]; simp))
            clear HS HF
            rcases h13 with rfl | rfl
            · go_wp2_with fail
              exact ⟨⟨j + 1, by omega, by go_num, HS2.out, HB3.out⟩, by simp [intOf]; omega⟩
            · go_wp2_with fail
              exact ⟨⟨j + 1, by omega, by go_num, HS2.out, HB3.out⟩, by simp [intOf]; omega⟩
          · obtain rfl : r = false := HF.out (by rw [if_pos h13]; simp [hl])
            have hl' : (len != 0) = true := by simpa using hl
            clear HS HF
            rcases h13 with rfl | rfl
            · go_wp2_with fail
              go_ret
              exact ⟨rfl, HB3.out⟩
            · go_wp2_with fail
              go_ret
              exact ⟨rfl, HB3.out⟩
        · by_cases h2 : k = 2
          · subst h2
            by_cases hl : 1 ≤ len ∧ len ≤ 16
            · have HS2 := Lib.hid (HS.out (by rw [if_neg h13, if_pos rfl]; simp [hl]))
              have l1 : decide (len < 1) = false := by simp; omega
              have l2 : decide (16 < len) = false := by simp; omega
              clear HS HF
              go_wp2_with fail
              exact ⟨⟨j + 1, by omega, by go_num, HS2.out, HB3.out⟩, by simp [intOf]; omega⟩
            · obtain rfl : r = false := HF.out (by rw [if_neg h13, if_pos rfl]; simpa using hl)
              clear HS HF
              by_cases l1 : len < 1
              · have l1' : decide (len < 1) = true := by simpa using l1
                go_wp2_with fail
                go_ret
                exact ⟨rfl, HB3.out⟩
              · have l1' : decide (len < 1) = false := by simpa using l1
                have l2 : decide (16 < len) = true := by simp; omega
                go_wp2_with fail
                go_ret
                exact ⟨rfl, HB3.out⟩
          · obtain rfl : r = false := HF.out (by rw [if_neg h13, if_neg h2]; rfl)
            have e1 : (k == 1) = false := by simp; omega
            have e2 : (k == 2) = false := by simpa using h2
            have e3 : (k == 3) = false := by simp; omega
            clear HS HF
            go_wp2_with fail
            go_ret
            exact ⟨rfl, HB3.out⟩
    · obtain rfl : j = nv := by omega
      obtain rfl : r = true := HR.out.2 fun v hv => by
        obtain ⟨i, hi⟩ := List.getElem?_of_mem hv
        exact HP.out i v (by have := (List.getElem?_eq_some_iff.1 hi).1; have := HNV.out; omega) hi
      go_wp2_with fail
      go_ret
      exact ⟨rfl, HBR.out⟩
/-- What Valid answers. -/
def ValP (R : Nat → Nat → Bool → Nat → Prop) (rD rB : Bool) (e : Ending) : Prop := ∃ r : Bool, e = .returned (.bool r) ∧ (rD = false → r = false) ∧ (rD = true → ∃ b lf, R 80 2000 b lf ∧ r = (b && rB))
theorem e_Valid {w : World} {B : Nat} (hBw : B ≤ w.heap.size) (V : Option Addr) (nv cv : Nat) (vs : List Vr) (hv : VsAt w B V vs) (hnv : vs.length = nv) (hnv2 : nv ≤ 32) (rD : Bool) (hr : rD = true ↔ ∀ v ∈ vs, declB nameB v = true) (m : Nd) {R : Nat → Nat → Bool → Nat → Prop} (hl : LimOk w B m R) (rB : Bool) (hib : ∀ W, Below B w W → Calls Tryz.prog 34 #[.agg #[.int .u8 m.k, .int .i64 m.num, .string m.nm, .slice m.A m.n m.cap]] W fun en w'' => en = .returned (.bool rB) ∧ Below W.heap.size W w'') (w' : World) (hb : Below B w w') :
    Calls Tryz.prog 7 #[.agg #[.slice V nv cv, .slice none 0 0, .int .u8 m.k, .int .i64 m.num, .string m.nm, .slice m.A m.n m.cap]] w' fun en w'' => ValP R rD rB en ∧ Below w'.heap.size w' w'' := by
  have HD : Hid (∀ W, Below B w W → Calls Tryz.prog 14 #[.slice V nv cv] W fun en w'' => en = .returned (.bool rD) ∧ Below W.heap.size W w'') := Lib.hid fun W hW => e_declared hBw V nv cv vs hv hnv (by omega) rD hr W hW
  have HI : Hid (∀ W, Below B w W → Calls Tryz.prog 16 #[.agg #[.int .u8 m.k, .int .i64 m.num, .string m.nm, .slice m.A m.n m.cap]] W fun en w'' => (∃ b lf, R 80 2000 b lf ∧ en = .returned (.bool (b && rB))) ∧ Below W.heap.size W w'') := Lib.hid fun W hW => e_isBody hBw m hl rB hib W hW
  have HB := Lib.hid hb
  have hBw' : B ≤ w'.heap.size := by have := hb.size; omega
  clear hv hnv hr hl hib hb
  have h32 : decide ((32 : Int) < (nv : Int)) = false := by simp; omega
  obtain ⟨k, num, nm, A, n, cap⟩ := m
  dsimp only at *
  go_enter Tryz.func7, Tryz.ntmps7
  go_upto_region 1 with fail
  refine wp_nameE ?_
  intro w1 hw1
  have hb1 : Below w'.heap.size w' w1 := by rw [hw1]; exact (by go_grown)
  have K1 : Blk w1 w'.heap.size 31 #[.slice V nv cv, .slice none 0 0, .int .u8 k, .int .i64 num, .string nm, .slice A n cap] := by rw [hw1]; exact (by repeat' (first | assumption | exact Blk.new' (by simp) _ _ | apply Blk.alloc | apply Blk.drew))
  have HK1 := Lib.hid K1; have HB1 := Lib.hid hb1
  clear hw1 hb1
  obtain ⟨z_1, T_1, F_1⟩ := K1.open_
  clear K1
  go_wp2_with fail
  refine (HD.out w1 (HB.out.trans (HB1.out.mono hBw'))).mono ?_
  rintro en w2 ⟨rfl, hb2⟩
  have HB2 := Lib.hid (HB1.out.next hb2); have K2 := HK1.out.next hb2
  have HK2 := Lib.hid K2
  clear T_1 z_1 F_1 hb2
  obtain ⟨z_1, T_1, F_1⟩ := K2.open_
  clear K2
  cases rD with
  | false =>
    go_wp2_with fail
    go_ret
    exact ⟨⟨false, rfl, fun _ => rfl, (fun h => by cases h)⟩, HB2.out⟩
  | true =>
    go_upto_region 4 with fail
    clear T_1 z_1 F_1
    go_loopw [24] (fun v24 wr => v24 = .int .i64 0 ∧ w2 = wr) (fun _ _ => 0)
    case atStart => exact ⟨rfl, rfl⟩
    case round =>
      obtain ⟨rfl, rfl⟩ := hrel
      obtain ⟨z_1, T_1, F_1⟩ := HK2.out.open_
      go_wp2_with fail
      refine (HI.out w2 (HB.out.trans (HB2.out.mono hBw'))).mono ?_
      rintro en w3 ⟨⟨b, lf, hR, rfl⟩, hb3⟩
      have HB3 := Lib.hid (HB2.out.next hb3); have HR := Lib.hid hR
      clear T_1 z_1 F_1 hb3 hR
      go_wp2_with fail
      go_ret
      exact ⟨⟨_, rfl, (fun h => by cases h), fun _ => ⟨b, lf, HR.out, rfl⟩⟩, HB3.out⟩
end Go.Proofs.YtbijhlgdilkopaaGreatDoor
