/- ast.IsStmt, ast.IsBlock at any tree. Printed by gen_whc.py. -/
import Derived.Test.YtakfdnnlhjhcfaaGreatDoorM5
set_option linter.unusedVariables false
set_option linter.unusedSimpArgs false
set_option maxRecDepth 100000
set_option maxHeartbeats 4000000
namespace Go.Proofs.YtakfdnnlhjhcfaaGreatDoor
open Go.RowKit Bk
theorem e_everyG {w : World} {B : Nat} (hBw : B ≤ w.heap.size) (x : Nd) (hn : x.n ≤ 9223372036854775807) (g0 : FuncId) (r : Nat → Bool) (heg : ∀ args W, (callFunc g0 args).run Tryz.prog W = .ok (.enter g0 args) W) (hkid : ∀ i, i < x.n → ∃ y, Kid w B x i y ∧ ∀ W, Below B w W → Calls Tryz.prog g0 #[.agg #[.int .u8 y.k, .int .i64 y.num, .string y.nm, .slice y.A y.n y.cap]] W fun en w'' => en = .returned (.bool (r i)) ∧ Below W.heap.size W w'') (w' : World) (hb : Below B w w') :
    Calls Tryz.prog 92 #[.slice x.A x.n x.cap, .func (.func g0) #[] #[]] w' fun en w'' => en = .returned (.bool (allTo r x.n)) ∧ Below w'.heap.size w' w'' := by
  obtain ⟨k, num, nm, A, n, cap⟩ := x
  have HK := Lib.hid hkid; have HB := Lib.hid hb
  have HAF : Hid (∀ j, j < n → r j = false → allTo r n = false) := Lib.hid fun j h1 h2 => allTo_false h1 h2
  obtain ⟨rr, hrr⟩ : ∃ rr, allTo r n = rr := ⟨_, rfl⟩
  have HRR := Lib.hid hrr
  have eg' := heg
  dsimp only at *
  rw [hrr] at HAF ⊢
  clear hkid hb hrr heg
  go_enter Tryz.func92, Tryz.ntmps92
  go_wp2_with fail
  go_loopw [9] (fun v9 wr => ∃ j : Nat, j ≤ n ∧ v9 = .int .i64 j ∧ allTo r j = true ∧ Below w'.heap.size w' wr) (fun v _ => n - (intOf v).toNat)
  case atStart => exact ⟨0, Nat.zero_le _, rfl, rfl, Below.refl _ _⟩
  case round =>
    obtain ⟨j, hj, rfl, hall, hbr⟩ := hrel
    have HBR := Lib.hid hbr; have HALL := Lib.hid hall
    clear hbr hall
    by_cases hjn : j < n
    · obtain ⟨y, hky, hoy⟩ := HK.out j hjn
      obtain ⟨g, o, hA2, hgB, c0, c1, c2, c3⟩ := hky.cells (HB.out.trans (HBR.out.mono (by have := HB.out.size; omega)))
      simp only at hA2
      subst hA2
      have HOY := Lib.hid hoy
      have j0 : (0 : Int) ≤ (j : Int) := by omega
      have j1 : (j : Int) < (n : Int) := by omega
      clear hky hoy
      go_upto_region 4 with fail
      refine wp_nameE ?_
      intro w2 hw2
      have hb2 : Below wr.heap.size wr w2 := by rw [hw2]; exact (by go_grown)
      have K2 : Blk w2 wr.heap.size 26 #[.int .u8 y.k, .int .i64 y.num, .string y.nm, .slice y.A y.n y.cap] := by rw [hw2]; exact (by repeat' (first | assumption | exact Blk.new' (by simp) _ _ | apply Blk.alloc | apply Blk.drew))
      have HB2 := Lib.hid (HBR.out.next hb2)
      clear hw2 c0 c1 c2 c3 hb2
      obtain ⟨z_2, T_2, F_2⟩ := K2.open_
      clear K2
      go_wp2_with fail
      refine (HOY.out w2 (HB.out.trans (HB2.out.mono (by have := HB.out.size; omega)))).mono ?_
      rintro en w3 ⟨rfl, hb3⟩
      obtain ⟨rj, hrj⟩ : ∃ rj, r j = rj := ⟨_, rfl⟩
      have HRJ := Lib.hid hrj
      have HB3 := Lib.hid (HB2.out.next hb3)
      rw [hrj]
      clear T_2 z_2 F_2 hb3 hrj
      cases rj with
      | false =>
        obtain rfl : rr = false := HAF.out j hjn HRJ.out
        go_wp2_with fail
        go_ret
        exact ⟨rfl, HB3.out⟩
      | true =>
        go_wp2_with fail
        exact ⟨⟨j + 1, by omega, by go_num, by simp only [allTo]; rw [HALL.out, HRJ.out]; rfl, HB3.out⟩, by simp [intOf]; omega⟩
    · obtain rfl : j = n := by omega
      obtain rfl : rr = true := by rw [← HRR.out]; exact HALL.out
      go_wp2_with fail
      go_ret
      exact ⟨rfl, HBR.out⟩
def StOk (w : World) (B d : Nat) : Prop := ∀ x, KV w B d x → ∀ w', Below B w w' → Calls Tryz.prog 93 #[.agg #[.int .u8 x.k, .int .i64 x.num, .string x.nm, .slice x.A x.n x.cap]] w' fun en w'' => en = .returned (.bool (stB w B d x)) ∧ Below w'.heap.size w' w''
def BlOk (w : World) (B d : Nat) : Prop := ∀ x, KV w B d x → ∀ w', Below B w w' → Calls Tryz.prog 54 #[.agg #[.int .u8 x.k, .int .i64 x.num, .string x.nm, .slice x.A x.n x.cap]] w' fun en w'' => en = .returned (.bool (blB w B d x)) ∧ Below w'.heap.size w' w''
theorem e_stA {w : World} {B d : Nat} (hBw : B ≤ w.heap.size) (hbl : BlOk w B d) (x : Nd) (hk : x.k = 40 ∨ x.k = 41 ∨ x.k = 42 ∨ x.k = 56) (hx : KV w B (d + 1) x) (w' : World) (hb : Below B w w') :
    Calls Tryz.prog 93 #[.agg #[.int .u8 x.k, .int .i64 x.num, .string x.nm, .slice x.A x.n x.cap]] w' fun en w'' => en = .returned (.bool ((decide (x.num = 0) && x.nm.toList.isEmpty) && (decide (x.n = 2) && allTo (fun i => if i = 0 then plB w B (kidN w B x i) else exB w B (kidN w B x i)) 2))) ∧ Below w'.heap.size w' w'' := by
  have HP : Hid (∀ W, Calls Tryz.prog 91 #[.agg #[.int .u8 x.k, .int .i64 x.num, .string x.nm, .slice x.A x.n x.cap]] W fun e w' => e = .returned (.bool (decide (x.num = 0) && x.nm.toList.isEmpty)) ∧ Below W.heap.size W w') := Lib.hid fun W => e_plain x W
  have HKS : Hid (∀ W, Below B w W → ∀ h t, Blk W h t #[.func (.func 121) #[] #[], .func (.func 122) #[] #[]] → Calls Tryz.prog 120 #[.agg #[.int .u8 x.k, .int .i64 x.num, .string x.nm, .slice x.A x.n x.cap], .slice (some ⟨h, 0, none⟩) 2 2] W fun en w'' => en = .returned (.bool (decide (x.n = 2) && allTo (fun i => if i = 0 then plB w B (kidN w B x i) else exB w B (kidN w B x i)) 2)) ∧ Below W.heap.size W w'') := Lib.hid fun W hW h t hf =>
    e_kidsR hBw x 2 (by omega) (fun i => if i = 0 then 121 else 122) (fun i => if i = 0 then plB w B (kidN w B x i) else exB w B (kidN w B x i)) (fun i hi args W => by
      match i, hi with
      | 0, _ => rfl
      | 1, _ => rfl) (fun hn i hi => by
      match i, hi with
      | 0, _ => obtain ⟨h1, h2⟩ := kidN_kid hx (i := 0) (by omega); exact ⟨_, h1, fun W hW => e_IsPlace hBw _ h2 W hW⟩
      | 1, _ => obtain ⟨h1, h2⟩ := kidN_kid hx (i := 1) (by omega); exact ⟨_, h1, fun W hW => e_exB hBw _ h2 W hW⟩) W hW h t _ hf (fun i hi => by
      match i, hi with
      | 0, _ => rfl
      | 1, _ => rfl)
  obtain ⟨pb, hpb⟩ : ∃ pb, (decide (x.num = 0) && x.nm.toList.isEmpty) = pb := ⟨_, rfl⟩
  obtain ⟨rk, hrk⟩ : ∃ rk, (decide (x.n = 2) && allTo (fun i => if i = 0 then plB w B (kidN w B x i) else exB w B (kidN w B x i)) 2) = rk := ⟨_, rfl⟩
  rw [hpb] at HP ⊢
  rw [hrk] at HKS ⊢
  have HB := Lib.hid hb
  have hBw' : B ≤ w'.heap.size := by have := hb.size; omega
  clear hx hb hpb hrk hbl
  obtain ⟨k, num, nm, A, n, cap⟩ := x
  dsimp only at *
  rcases hk with rfl | rfl | rfl | rfl
  · go_enter Tryz.func93, Tryz.ntmps93
    go_upto_region 1 with fail
    refine wp_nameE ?_
    intro w1 hw1
    have hb1 : Below w'.heap.size w' w1 := by rw [hw1]; exact (by go_grown)
    have K1 : Blk w1 w'.heap.size 26 #[.int .u8 40, .int .i64 num, .string nm, .slice A n cap] := by rw [hw1]; exact (by repeat' (first | assumption | exact Blk.new' (by simp) _ _ | apply Blk.alloc | apply Blk.drew))
    have HK1 := Lib.hid K1; have HB1 := Lib.hid hb1
    clear hw1 hb1
    obtain ⟨z_1, T_1, F_1⟩ := K1.open_
    clear K1
    go_wp2_with fail
    refine (HP.out w1).mono ?_
    rintro en w2 ⟨rfl, hb2⟩
    have HB2 := Lib.hid (HB1.out.next hb2); have K2 := HK1.out.next hb2
    clear T_1 z_1 F_1 hb2
    obtain ⟨z_1, T_1, F_1⟩ := K2.open_
    clear K2
    cases pb with
    | false =>
      go_wp2_with fail
      go_ret
      exact ⟨by simp, HB2.out⟩
    | true =>
      go_wp2_with fail
      refine (HKS.out _ ((HB.out.trans (HB2.out.mono hBw')).trans ((Below.refl _ _).alloc (by have := HB2.out.size; omega) _)) _ _ (Blk.new _ _ _)).mono ?_
      rintro en w3 ⟨rfl, hb3⟩
      have HB3 : Hid (Below w'.heap.size w' w3) := Lib.hid (HB2.out.next (((Below.refl _ _).alloc (Nat.le_refl _) _).next hb3))
      clear T_1 z_1 F_1 hb3
      go_wp2_with fail
      go_ret
      exact ⟨by simp, HB3.out⟩
  · go_enter Tryz.func93, Tryz.ntmps93
    go_upto_region 1 with fail
    refine wp_nameE ?_
    intro w1 hw1
    have hb1 : Below w'.heap.size w' w1 := by rw [hw1]; exact (by go_grown)
    have K1 : Blk w1 w'.heap.size 26 #[.int .u8 41, .int .i64 num, .string nm, .slice A n cap] := by rw [hw1]; exact (by repeat' (first | assumption | exact Blk.new' (by simp) _ _ | apply Blk.alloc | apply Blk.drew))
    have HK1 := Lib.hid K1; have HB1 := Lib.hid hb1
    clear hw1 hb1
    obtain ⟨z_1, T_1, F_1⟩ := K1.open_
    clear K1
    go_wp2_with fail
    refine (HP.out w1).mono ?_
    rintro en w2 ⟨rfl, hb2⟩
    have HB2 := Lib.hid (HB1.out.next hb2); have K2 := HK1.out.next hb2
    clear T_1 z_1 F_1 hb2
    obtain ⟨z_1, T_1, F_1⟩ := K2.open_
    clear K2
    cases pb with
    | false =>
      go_wp2_with fail
      go_ret
      exact ⟨by simp, HB2.out⟩
    | true =>
      go_wp2_with fail
      refine (HKS.out _ ((HB.out.trans (HB2.out.mono hBw')).trans ((Below.refl _ _).alloc (by have := HB2.out.size; omega) _)) _ _ (Blk.new _ _ _)).mono ?_
      rintro en w3 ⟨rfl, hb3⟩
      have HB3 : Hid (Below w'.heap.size w' w3) := Lib.hid (HB2.out.next (((Below.refl _ _).alloc (Nat.le_refl _) _).next hb3))
      clear T_1 z_1 F_1 hb3
      go_wp2_with fail
      go_ret
      exact ⟨by simp, HB3.out⟩
  · go_enter Tryz.func93, Tryz.ntmps93
    go_upto_region 1 with fail
    refine wp_nameE ?_
    intro w1 hw1
    have hb1 : Below w'.heap.size w' w1 := by rw [hw1]; exact (by go_grown)
    have K1 : Blk w1 w'.heap.size 26 #[.int .u8 42, .int .i64 num, .string nm, .slice A n cap] := by rw [hw1]; exact (by repeat' (first | assumption | exact Blk.new' (by simp) _ _ | apply Blk.alloc | apply Blk.drew))
    have HK1 := Lib.hid K1; have HB1 := Lib.hid hb1
    clear hw1 hb1
    obtain ⟨z_1, T_1, F_1⟩ := K1.open_
    clear K1
    go_wp2_with fail
    refine (HP.out w1).mono ?_
    rintro en w2 ⟨rfl, hb2⟩
    have HB2 := Lib.hid (HB1.out.next hb2); have K2 := HK1.out.next hb2
    clear T_1 z_1 F_1 hb2
    obtain ⟨z_1, T_1, F_1⟩ := K2.open_
    clear K2
    cases pb with
    | false =>
      go_wp2_with fail
      go_ret
      exact ⟨by simp, HB2.out⟩
    | true =>
      go_wp2_with fail
      refine (HKS.out _ ((HB.out.trans (HB2.out.mono hBw')).trans ((Below.refl _ _).alloc (by have := HB2.out.size; omega) _)) _ _ (Blk.new _ _ _)).mono ?_
      rintro en w3 ⟨rfl, hb3⟩
      have HB3 : Hid (Below w'.heap.size w' w3) := Lib.hid (HB2.out.next (((Below.refl _ _).alloc (Nat.le_refl _) _).next hb3))
      clear T_1 z_1 F_1 hb3
      go_wp2_with fail
      go_ret
      exact ⟨by simp, HB3.out⟩
  · go_enter Tryz.func93, Tryz.ntmps93
    go_upto_region 1 with fail
    refine wp_nameE ?_
    intro w1 hw1
    have hb1 : Below w'.heap.size w' w1 := by rw [hw1]; exact (by go_grown)
    have K1 : Blk w1 w'.heap.size 26 #[.int .u8 56, .int .i64 num, .string nm, .slice A n cap] := by rw [hw1]; exact (by repeat' (first | assumption | exact Blk.new' (by simp) _ _ | apply Blk.alloc | apply Blk.drew))
    have HK1 := Lib.hid K1; have HB1 := Lib.hid hb1
    clear hw1 hb1
    obtain ⟨z_1, T_1, F_1⟩ := K1.open_
    clear K1
    go_wp2_with fail
    refine (HP.out w1).mono ?_
    rintro en w2 ⟨rfl, hb2⟩
    have HB2 := Lib.hid (HB1.out.next hb2); have K2 := HK1.out.next hb2
    clear T_1 z_1 F_1 hb2
    obtain ⟨z_1, T_1, F_1⟩ := K2.open_
    clear K2
    cases pb with
    | false =>
      go_wp2_with fail
      go_ret
      exact ⟨by simp, HB2.out⟩
    | true =>
      go_wp2_with fail
      refine (HKS.out _ ((HB.out.trans (HB2.out.mono hBw')).trans ((Below.refl _ _).alloc (by have := HB2.out.size; omega) _)) _ _ (Blk.new _ _ _)).mono ?_
      rintro en w3 ⟨rfl, hb3⟩
      have HB3 : Hid (Below w'.heap.size w' w3) := Lib.hid (HB2.out.next (((Below.refl _ _).alloc (Nat.le_refl _) _).next hb3))
      clear T_1 z_1 F_1 hb3
      go_wp2_with fail
      go_ret
      exact ⟨by simp, HB3.out⟩
theorem e_stB {w : World} {B d : Nat} (hBw : B ≤ w.heap.size) (hbl : BlOk w B d) (x : Nd) (hk : x.k = 43) (hx : KV w B (d + 1) x) (w' : World) (hb : Below B w w') :
    Calls Tryz.prog 93 #[.agg #[.int .u8 x.k, .int .i64 x.num, .string x.nm, .slice x.A x.n x.cap]] w' fun en w'' => en = .returned (.bool ((decide (x.num = 0) && x.nm.toList.isEmpty) && (decide (x.n = 2) && allTo (fun i => if i = 0 then plB w B (kidN w B x i) else plB w B (kidN w B x i)) 2))) ∧ Below w'.heap.size w' w'' := by
  have HP : Hid (∀ W, Calls Tryz.prog 91 #[.agg #[.int .u8 x.k, .int .i64 x.num, .string x.nm, .slice x.A x.n x.cap]] W fun e w' => e = .returned (.bool (decide (x.num = 0) && x.nm.toList.isEmpty)) ∧ Below W.heap.size W w') := Lib.hid fun W => e_plain x W
  have HKS : Hid (∀ W, Below B w W → ∀ h t, Blk W h t #[.func (.func 121) #[] #[], .func (.func 121) #[] #[]] → Calls Tryz.prog 120 #[.agg #[.int .u8 x.k, .int .i64 x.num, .string x.nm, .slice x.A x.n x.cap], .slice (some ⟨h, 0, none⟩) 2 2] W fun en w'' => en = .returned (.bool (decide (x.n = 2) && allTo (fun i => if i = 0 then plB w B (kidN w B x i) else plB w B (kidN w B x i)) 2)) ∧ Below W.heap.size W w'') := Lib.hid fun W hW h t hf =>
    e_kidsR hBw x 2 (by omega) (fun i => if i = 0 then 121 else 121) (fun i => if i = 0 then plB w B (kidN w B x i) else plB w B (kidN w B x i)) (fun i hi args W => by
      match i, hi with
      | 0, _ => rfl
      | 1, _ => rfl) (fun hn i hi => by
      match i, hi with
      | 0, _ => obtain ⟨h1, h2⟩ := kidN_kid hx (i := 0) (by omega); exact ⟨_, h1, fun W hW => e_IsPlace hBw _ h2 W hW⟩
      | 1, _ => obtain ⟨h1, h2⟩ := kidN_kid hx (i := 1) (by omega); exact ⟨_, h1, fun W hW => e_IsPlace hBw _ h2 W hW⟩) W hW h t _ hf (fun i hi => by
      match i, hi with
      | 0, _ => rfl
      | 1, _ => rfl)
  obtain ⟨pb, hpb⟩ : ∃ pb, (decide (x.num = 0) && x.nm.toList.isEmpty) = pb := ⟨_, rfl⟩
  obtain ⟨rk, hrk⟩ : ∃ rk, (decide (x.n = 2) && allTo (fun i => if i = 0 then plB w B (kidN w B x i) else plB w B (kidN w B x i)) 2) = rk := ⟨_, rfl⟩
  rw [hpb] at HP ⊢
  rw [hrk] at HKS ⊢
  have HB := Lib.hid hb
  have hBw' : B ≤ w'.heap.size := by have := hb.size; omega
  clear hx hb hpb hrk hbl
  obtain ⟨k, num, nm, A, n, cap⟩ := x
  dsimp only at *
  rcases hk with rfl
  · go_enter Tryz.func93, Tryz.ntmps93
    go_upto_region 1 with fail
    refine wp_nameE ?_
    intro w1 hw1
    have hb1 : Below w'.heap.size w' w1 := by rw [hw1]; exact (by go_grown)
    have K1 : Blk w1 w'.heap.size 26 #[.int .u8 43, .int .i64 num, .string nm, .slice A n cap] := by rw [hw1]; exact (by repeat' (first | assumption | exact Blk.new' (by simp) _ _ | apply Blk.alloc | apply Blk.drew))
    have HK1 := Lib.hid K1; have HB1 := Lib.hid hb1
    clear hw1 hb1
    obtain ⟨z_1, T_1, F_1⟩ := K1.open_
    clear K1
    go_wp2_with fail
    refine (HP.out w1).mono ?_
    rintro en w2 ⟨rfl, hb2⟩
    have HB2 := Lib.hid (HB1.out.next hb2); have K2 := HK1.out.next hb2
    clear T_1 z_1 F_1 hb2
    obtain ⟨z_1, T_1, F_1⟩ := K2.open_
    clear K2
    cases pb with
    | false =>
      go_wp2_with fail
      go_ret
      exact ⟨by simp, HB2.out⟩
    | true =>
      go_wp2_with fail
      refine (HKS.out _ ((HB.out.trans (HB2.out.mono hBw')).trans ((Below.refl _ _).alloc (by have := HB2.out.size; omega) _)) _ _ (Blk.new _ _ _)).mono ?_
      rintro en w3 ⟨rfl, hb3⟩
      have HB3 : Hid (Below w'.heap.size w' w3) := Lib.hid (HB2.out.next (((Below.refl _ _).alloc (Nat.le_refl _) _).next hb3))
      clear T_1 z_1 F_1 hb3
      go_wp2_with fail
      go_ret
      exact ⟨by simp, HB3.out⟩
theorem e_stC {w : World} {B d : Nat} (hBw : B ≤ w.heap.size) (hbl : BlOk w B d) (x : Nd) (hk : x.k = 44 ∨ x.k = 45) (hx : KV w B (d + 1) x) (w' : World) (hb : Below B w w') :
    Calls Tryz.prog 93 #[.agg #[.int .u8 x.k, .int .i64 x.num, .string x.nm, .slice x.A x.n x.cap]] w' fun en w'' => en = .returned (.bool ((decide (x.num = 0) && nameB x.nm) && (decide (x.n = 1) && allTo (fun i => plB w B (kidN w B x i)) 1))) ∧ Below w'.heap.size w' w'' := by
  have HP : Hid (∀ W, Calls Tryz.prog 123 #[.agg #[.int .u8 x.k, .int .i64 x.num, .string x.nm, .slice x.A x.n x.cap]] W fun e w' => e = .returned (.bool (decide (x.num = 0) && nameB x.nm)) ∧ Below W.heap.size W w') := Lib.hid fun W => e_named x W
  have HKS : Hid (∀ W, Below B w W → ∀ h t, Blk W h t #[.func (.func 121) #[] #[]] → Calls Tryz.prog 120 #[.agg #[.int .u8 x.k, .int .i64 x.num, .string x.nm, .slice x.A x.n x.cap], .slice (some ⟨h, 0, none⟩) 1 1] W fun en w'' => en = .returned (.bool (decide (x.n = 1) && allTo (fun i => plB w B (kidN w B x i)) 1)) ∧ Below W.heap.size W w'') := Lib.hid fun W hW h t hf =>
    e_kidsR hBw x 1 (by omega) (fun i => 121) (fun i => plB w B (kidN w B x i)) (fun i hi args W => by
      match i, hi with
      | 0, _ => rfl) (fun hn i hi => by
      match i, hi with
      | 0, _ => obtain ⟨h1, h2⟩ := kidN_kid hx (i := 0) (by omega); exact ⟨_, h1, fun W hW => e_IsPlace hBw _ h2 W hW⟩) W hW h t _ hf (fun i hi => by
      match i, hi with
      | 0, _ => rfl)
  obtain ⟨pb, hpb⟩ : ∃ pb, (decide (x.num = 0) && nameB x.nm) = pb := ⟨_, rfl⟩
  obtain ⟨rk, hrk⟩ : ∃ rk, (decide (x.n = 1) && allTo (fun i => plB w B (kidN w B x i)) 1) = rk := ⟨_, rfl⟩
  rw [hpb] at HP ⊢
  rw [hrk] at HKS ⊢
  have HB := Lib.hid hb
  have hBw' : B ≤ w'.heap.size := by have := hb.size; omega
  clear hx hb hpb hrk hbl
  obtain ⟨k, num, nm, A, n, cap⟩ := x
  dsimp only at *
  rcases hk with rfl | rfl
  · go_enter Tryz.func93, Tryz.ntmps93
    go_upto_region 1 with fail
    refine wp_nameE ?_
    intro w1 hw1
    have hb1 : Below w'.heap.size w' w1 := by rw [hw1]; exact (by go_grown)
    have K1 : Blk w1 w'.heap.size 26 #[.int .u8 44, .int .i64 num, .string nm, .slice A n cap] := by rw [hw1]; exact (by repeat' (first | assumption | exact Blk.new' (by simp) _ _ | apply Blk.alloc | apply Blk.drew))
    have HK1 := Lib.hid K1; have HB1 := Lib.hid hb1
    clear hw1 hb1
    obtain ⟨z_1, T_1, F_1⟩ := K1.open_
    clear K1
    go_wp2_with fail
    refine (HP.out w1).mono ?_
    rintro en w2 ⟨rfl, hb2⟩
    have HB2 := Lib.hid (HB1.out.next hb2); have K2 := HK1.out.next hb2
    clear T_1 z_1 F_1 hb2
    obtain ⟨z_1, T_1, F_1⟩ := K2.open_
    clear K2
    cases pb with
    | false =>
      go_wp2_with fail
      go_ret
      exact ⟨by simp, HB2.out⟩
    | true =>
      go_wp2_with fail
      refine (HKS.out _ ((HB.out.trans (HB2.out.mono hBw')).trans ((Below.refl _ _).alloc (by have := HB2.out.size; omega) _)) _ _ (Blk.new _ _ _)).mono ?_
      rintro en w3 ⟨rfl, hb3⟩
      have HB3 : Hid (Below w'.heap.size w' w3) := Lib.hid (HB2.out.next (((Below.refl _ _).alloc (Nat.le_refl _) _).next hb3))
      clear T_1 z_1 F_1 hb3
      go_wp2_with fail
      go_ret
      exact ⟨by simp, HB3.out⟩
  · go_enter Tryz.func93, Tryz.ntmps93
    go_upto_region 1 with fail
    refine wp_nameE ?_
    intro w1 hw1
    have hb1 : Below w'.heap.size w' w1 := by rw [hw1]; exact (by go_grown)
    have K1 : Blk w1 w'.heap.size 26 #[.int .u8 45, .int .i64 num, .string nm, .slice A n cap] := by rw [hw1]; exact (by repeat' (first | assumption | exact Blk.new' (by simp) _ _ | apply Blk.alloc | apply Blk.drew))
    have HK1 := Lib.hid K1; have HB1 := Lib.hid hb1
    clear hw1 hb1
    obtain ⟨z_1, T_1, F_1⟩ := K1.open_
    clear K1
    go_wp2_with fail
    refine (HP.out w1).mono ?_
    rintro en w2 ⟨rfl, hb2⟩
    have HB2 := Lib.hid (HB1.out.next hb2); have K2 := HK1.out.next hb2
    clear T_1 z_1 F_1 hb2
    obtain ⟨z_1, T_1, F_1⟩ := K2.open_
    clear K2
    cases pb with
    | false =>
      go_wp2_with fail
      go_ret
      exact ⟨by simp, HB2.out⟩
    | true =>
      go_wp2_with fail
      refine (HKS.out _ ((HB.out.trans (HB2.out.mono hBw')).trans ((Below.refl _ _).alloc (by have := HB2.out.size; omega) _)) _ _ (Blk.new _ _ _)).mono ?_
      rintro en w3 ⟨rfl, hb3⟩
      have HB3 : Hid (Below w'.heap.size w' w3) := Lib.hid (HB2.out.next (((Below.refl _ _).alloc (Nat.le_refl _) _).next hb3))
      clear T_1 z_1 F_1 hb3
      go_wp2_with fail
      go_ret
      exact ⟨by simp, HB3.out⟩
theorem e_stD {w : World} {B d : Nat} (hBw : B ≤ w.heap.size) (hbl : BlOk w B d) (x : Nd) (hk : x.k = 46 ∨ x.k = 47 ∨ x.k = 48 ∨ x.k = 49) (hx : KV w B (d + 1) x) (w' : World) (hb : Below B w w') :
    Calls Tryz.prog 93 #[.agg #[.int .u8 x.k, .int .i64 x.num, .string x.nm, .slice x.A x.n x.cap]] w' fun en w'' => en = .returned (.bool ((decide (x.num = 0) && x.nm.toList.isEmpty) && (decide (x.n = 1) && allTo (fun i => plB w B (kidN w B x i)) 1))) ∧ Below w'.heap.size w' w'' := by
  have HP : Hid (∀ W, Calls Tryz.prog 91 #[.agg #[.int .u8 x.k, .int .i64 x.num, .string x.nm, .slice x.A x.n x.cap]] W fun e w' => e = .returned (.bool (decide (x.num = 0) && x.nm.toList.isEmpty)) ∧ Below W.heap.size W w') := Lib.hid fun W => e_plain x W
  have HKS : Hid (∀ W, Below B w W → ∀ h t, Blk W h t #[.func (.func 121) #[] #[]] → Calls Tryz.prog 120 #[.agg #[.int .u8 x.k, .int .i64 x.num, .string x.nm, .slice x.A x.n x.cap], .slice (some ⟨h, 0, none⟩) 1 1] W fun en w'' => en = .returned (.bool (decide (x.n = 1) && allTo (fun i => plB w B (kidN w B x i)) 1)) ∧ Below W.heap.size W w'') := Lib.hid fun W hW h t hf =>
    e_kidsR hBw x 1 (by omega) (fun i => 121) (fun i => plB w B (kidN w B x i)) (fun i hi args W => by
      match i, hi with
      | 0, _ => rfl) (fun hn i hi => by
      match i, hi with
      | 0, _ => obtain ⟨h1, h2⟩ := kidN_kid hx (i := 0) (by omega); exact ⟨_, h1, fun W hW => e_IsPlace hBw _ h2 W hW⟩) W hW h t _ hf (fun i hi => by
      match i, hi with
      | 0, _ => rfl)
  obtain ⟨pb, hpb⟩ : ∃ pb, (decide (x.num = 0) && x.nm.toList.isEmpty) = pb := ⟨_, rfl⟩
  obtain ⟨rk, hrk⟩ : ∃ rk, (decide (x.n = 1) && allTo (fun i => plB w B (kidN w B x i)) 1) = rk := ⟨_, rfl⟩
  rw [hpb] at HP ⊢
  rw [hrk] at HKS ⊢
  have HB := Lib.hid hb
  have hBw' : B ≤ w'.heap.size := by have := hb.size; omega
  clear hx hb hpb hrk hbl
  obtain ⟨k, num, nm, A, n, cap⟩ := x
  dsimp only at *
  rcases hk with rfl | rfl | rfl | rfl
  · go_enter Tryz.func93, Tryz.ntmps93
    go_upto_region 1 with fail
    refine wp_nameE ?_
    intro w1 hw1
    have hb1 : Below w'.heap.size w' w1 := by rw [hw1]; exact (by go_grown)
    have K1 : Blk w1 w'.heap.size 26 #[.int .u8 46, .int .i64 num, .string nm, .slice A n cap] := by rw [hw1]; exact (by repeat' (first | assumption | exact Blk.new' (by simp) _ _ | apply Blk.alloc | apply Blk.drew))
    have HK1 := Lib.hid K1; have HB1 := Lib.hid hb1
    clear hw1 hb1
    obtain ⟨z_1, T_1, F_1⟩ := K1.open_
    clear K1
    go_wp2_with fail
    refine (HP.out w1).mono ?_
    rintro en w2 ⟨rfl, hb2⟩
    have HB2 := Lib.hid (HB1.out.next hb2); have K2 := HK1.out.next hb2
    clear T_1 z_1 F_1 hb2
    obtain ⟨z_1, T_1, F_1⟩ := K2.open_
    clear K2
    cases pb with
    | false =>
      go_wp2_with fail
      go_ret
      exact ⟨by simp, HB2.out⟩
    | true =>
      go_wp2_with fail
      refine (HKS.out _ ((HB.out.trans (HB2.out.mono hBw')).trans ((Below.refl _ _).alloc (by have := HB2.out.size; omega) _)) _ _ (Blk.new _ _ _)).mono ?_
      rintro en w3 ⟨rfl, hb3⟩
      have HB3 : Hid (Below w'.heap.size w' w3) := Lib.hid (HB2.out.next (((Below.refl _ _).alloc (Nat.le_refl _) _).next hb3))
      clear T_1 z_1 F_1 hb3
      go_wp2_with fail
      go_ret
      exact ⟨by simp, HB3.out⟩
  · go_enter Tryz.func93, Tryz.ntmps93
    go_upto_region 1 with fail
    refine wp_nameE ?_
    intro w1 hw1
    have hb1 : Below w'.heap.size w' w1 := by rw [hw1]; exact (by go_grown)
    have K1 : Blk w1 w'.heap.size 26 #[.int .u8 47, .int .i64 num, .string nm, .slice A n cap] := by rw [hw1]; exact (by repeat' (first | assumption | exact Blk.new' (by simp) _ _ | apply Blk.alloc | apply Blk.drew))
    have HK1 := Lib.hid K1; have HB1 := Lib.hid hb1
    clear hw1 hb1
    obtain ⟨z_1, T_1, F_1⟩ := K1.open_
    clear K1
    go_wp2_with fail
    refine (HP.out w1).mono ?_
    rintro en w2 ⟨rfl, hb2⟩
    have HB2 := Lib.hid (HB1.out.next hb2); have K2 := HK1.out.next hb2
    clear T_1 z_1 F_1 hb2
    obtain ⟨z_1, T_1, F_1⟩ := K2.open_
    clear K2
    cases pb with
    | false =>
      go_wp2_with fail
      go_ret
      exact ⟨by simp, HB2.out⟩
    | true =>
      go_wp2_with fail
      refine (HKS.out _ ((HB.out.trans (HB2.out.mono hBw')).trans ((Below.refl _ _).alloc (by have := HB2.out.size; omega) _)) _ _ (Blk.new _ _ _)).mono ?_
      rintro en w3 ⟨rfl, hb3⟩
      have HB3 : Hid (Below w'.heap.size w' w3) := Lib.hid (HB2.out.next (((Below.refl _ _).alloc (Nat.le_refl _) _).next hb3))
      clear T_1 z_1 F_1 hb3
      go_wp2_with fail
      go_ret
      exact ⟨by simp, HB3.out⟩
  · go_enter Tryz.func93, Tryz.ntmps93
    go_upto_region 1 with fail
    refine wp_nameE ?_
    intro w1 hw1
    have hb1 : Below w'.heap.size w' w1 := by rw [hw1]; exact (by go_grown)
    have K1 : Blk w1 w'.heap.size 26 #[.int .u8 48, .int .i64 num, .string nm, .slice A n cap] := by rw [hw1]; exact (by repeat' (first | assumption | exact Blk.new' (by simp) _ _ | apply Blk.alloc | apply Blk.drew))
    have HK1 := Lib.hid K1; have HB1 := Lib.hid hb1
    clear hw1 hb1
    obtain ⟨z_1, T_1, F_1⟩ := K1.open_
    clear K1
    go_wp2_with fail
    refine (HP.out w1).mono ?_
    rintro en w2 ⟨rfl, hb2⟩
    have HB2 := Lib.hid (HB1.out.next hb2); have K2 := HK1.out.next hb2
    clear T_1 z_1 F_1 hb2
    obtain ⟨z_1, T_1, F_1⟩ := K2.open_
    clear K2
    cases pb with
    | false =>
      go_wp2_with fail
      go_ret
      exact ⟨by simp, HB2.out⟩
    | true =>
      go_wp2_with fail
      refine (HKS.out _ ((HB.out.trans (HB2.out.mono hBw')).trans ((Below.refl _ _).alloc (by have := HB2.out.size; omega) _)) _ _ (Blk.new _ _ _)).mono ?_
      rintro en w3 ⟨rfl, hb3⟩
      have HB3 : Hid (Below w'.heap.size w' w3) := Lib.hid (HB2.out.next (((Below.refl _ _).alloc (Nat.le_refl _) _).next hb3))
      clear T_1 z_1 F_1 hb3
      go_wp2_with fail
      go_ret
      exact ⟨by simp, HB3.out⟩
  · go_enter Tryz.func93, Tryz.ntmps93
    go_upto_region 1 with fail
    refine wp_nameE ?_
    intro w1 hw1
    have hb1 : Below w'.heap.size w' w1 := by rw [hw1]; exact (by go_grown)
    have K1 : Blk w1 w'.heap.size 26 #[.int .u8 49, .int .i64 num, .string nm, .slice A n cap] := by rw [hw1]; exact (by repeat' (first | assumption | exact Blk.new' (by simp) _ _ | apply Blk.alloc | apply Blk.drew))
    have HK1 := Lib.hid K1; have HB1 := Lib.hid hb1
    clear hw1 hb1
    obtain ⟨z_1, T_1, F_1⟩ := K1.open_
    clear K1
    go_wp2_with fail
    refine (HP.out w1).mono ?_
    rintro en w2 ⟨rfl, hb2⟩
    have HB2 := Lib.hid (HB1.out.next hb2); have K2 := HK1.out.next hb2
    clear T_1 z_1 F_1 hb2
    obtain ⟨z_1, T_1, F_1⟩ := K2.open_
    clear K2
    cases pb with
    | false =>
      go_wp2_with fail
      go_ret
      exact ⟨by simp, HB2.out⟩
    | true =>
      go_wp2_with fail
      refine (HKS.out _ ((HB.out.trans (HB2.out.mono hBw')).trans ((Below.refl _ _).alloc (by have := HB2.out.size; omega) _)) _ _ (Blk.new _ _ _)).mono ?_
      rintro en w3 ⟨rfl, hb3⟩
      have HB3 : Hid (Below w'.heap.size w' w3) := Lib.hid (HB2.out.next (((Below.refl _ _).alloc (Nat.le_refl _) _).next hb3))
      clear T_1 z_1 F_1 hb3
      go_wp2_with fail
      go_ret
      exact ⟨by simp, HB3.out⟩
theorem e_stE {w : World} {B d : Nat} (hBw : B ≤ w.heap.size) (hbl : BlOk w B d) (x : Nd) (hk : x.k = 52 ∨ x.k = 53) (hx : KV w B (d + 1) x) (w' : World) (hb : Below B w w') :
    Calls Tryz.prog 93 #[.agg #[.int .u8 x.k, .int .i64 x.num, .string x.nm, .slice x.A x.n x.cap]] w' fun en w'' => en = .returned (.bool ((decide (x.num = 0) && x.nm.toList.isEmpty) && (decide (x.n = 4) && allTo (fun i => if i = 0 then exB w B (kidN w B x i) else if i = 1 then blB w B d (kidN w B x i) else if i = 2 then blB w B d (kidN w B x i) else exB w B (kidN w B x i)) 4))) ∧ Below w'.heap.size w' w'' := by
  have HP : Hid (∀ W, Calls Tryz.prog 91 #[.agg #[.int .u8 x.k, .int .i64 x.num, .string x.nm, .slice x.A x.n x.cap]] W fun e w' => e = .returned (.bool (decide (x.num = 0) && x.nm.toList.isEmpty)) ∧ Below W.heap.size W w') := Lib.hid fun W => e_plain x W
  have HKS : Hid (∀ W, Below B w W → ∀ h t, Blk W h t #[.func (.func 122) #[] #[], .func (.func 54) #[] #[], .func (.func 54) #[] #[], .func (.func 122) #[] #[]] → Calls Tryz.prog 120 #[.agg #[.int .u8 x.k, .int .i64 x.num, .string x.nm, .slice x.A x.n x.cap], .slice (some ⟨h, 0, none⟩) 4 4] W fun en w'' => en = .returned (.bool (decide (x.n = 4) && allTo (fun i => if i = 0 then exB w B (kidN w B x i) else if i = 1 then blB w B d (kidN w B x i) else if i = 2 then blB w B d (kidN w B x i) else exB w B (kidN w B x i)) 4)) ∧ Below W.heap.size W w'') := Lib.hid fun W hW h t hf =>
    e_kidsR hBw x 4 (by omega) (fun i => if i = 0 then 122 else if i = 1 then 54 else if i = 2 then 54 else 122) (fun i => if i = 0 then exB w B (kidN w B x i) else if i = 1 then blB w B d (kidN w B x i) else if i = 2 then blB w B d (kidN w B x i) else exB w B (kidN w B x i)) (fun i hi args W => by
      match i, hi with
      | 0, _ => rfl
      | 1, _ => rfl
      | 2, _ => rfl
      | 3, _ => rfl) (fun hn i hi => by
      match i, hi with
      | 0, _ => obtain ⟨h1, h2⟩ := kidN_kid hx (i := 0) (by omega); exact ⟨_, h1, fun W hW => e_exB hBw _ h2 W hW⟩
      | 1, _ => obtain ⟨h1, h2⟩ := kidN_kid hx (i := 1) (by omega); exact ⟨_, h1, fun W hW => hbl _ h2 W hW⟩
      | 2, _ => obtain ⟨h1, h2⟩ := kidN_kid hx (i := 2) (by omega); exact ⟨_, h1, fun W hW => hbl _ h2 W hW⟩
      | 3, _ => obtain ⟨h1, h2⟩ := kidN_kid hx (i := 3) (by omega); exact ⟨_, h1, fun W hW => e_exB hBw _ h2 W hW⟩) W hW h t _ hf (fun i hi => by
      match i, hi with
      | 0, _ => rfl
      | 1, _ => rfl
      | 2, _ => rfl
      | 3, _ => rfl)
  obtain ⟨pb, hpb⟩ : ∃ pb, (decide (x.num = 0) && x.nm.toList.isEmpty) = pb := ⟨_, rfl⟩
  obtain ⟨rk, hrk⟩ : ∃ rk, (decide (x.n = 4) && allTo (fun i => if i = 0 then exB w B (kidN w B x i) else if i = 1 then blB w B d (kidN w B x i) else if i = 2 then blB w B d (kidN w B x i) else exB w B (kidN w B x i)) 4) = rk := ⟨_, rfl⟩
  rw [hpb] at HP ⊢
  rw [hrk] at HKS ⊢
  have HB := Lib.hid hb
  have hBw' : B ≤ w'.heap.size := by have := hb.size; omega
  clear hx hb hpb hrk hbl
  obtain ⟨k, num, nm, A, n, cap⟩ := x
  dsimp only at *
  rcases hk with rfl | rfl
  · go_enter Tryz.func93, Tryz.ntmps93
    go_upto_region 1 with fail
    refine wp_nameE ?_
    intro w1 hw1
    have hb1 : Below w'.heap.size w' w1 := by rw [hw1]; exact (by go_grown)
    have K1 : Blk w1 w'.heap.size 26 #[.int .u8 52, .int .i64 num, .string nm, .slice A n cap] := by rw [hw1]; exact (by repeat' (first | assumption | exact Blk.new' (by simp) _ _ | apply Blk.alloc | apply Blk.drew))
    have HK1 := Lib.hid K1; have HB1 := Lib.hid hb1
    clear hw1 hb1
    obtain ⟨z_1, T_1, F_1⟩ := K1.open_
    clear K1
    go_wp2_with fail
    refine (HP.out w1).mono ?_
    rintro en w2 ⟨rfl, hb2⟩
    have HB2 := Lib.hid (HB1.out.next hb2); have K2 := HK1.out.next hb2
    clear T_1 z_1 F_1 hb2
    obtain ⟨z_1, T_1, F_1⟩ := K2.open_
    clear K2
    cases pb with
    | false =>
      go_wp2_with fail
      go_ret
      exact ⟨by simp, HB2.out⟩
    | true =>
      go_wp2_with fail
      refine (HKS.out _ ((HB.out.trans (HB2.out.mono hBw')).trans ((Below.refl _ _).alloc (by have := HB2.out.size; omega) _)) _ _ (Blk.new _ _ _)).mono ?_
      rintro en w3 ⟨rfl, hb3⟩
      have HB3 : Hid (Below w'.heap.size w' w3) := Lib.hid (HB2.out.next (((Below.refl _ _).alloc (Nat.le_refl _) _).next hb3))
      clear T_1 z_1 F_1 hb3
      go_wp2_with fail
      go_ret
      exact ⟨by simp, HB3.out⟩
  · go_enter Tryz.func93, Tryz.ntmps93
    go_upto_region 1 with fail
    refine wp_nameE ?_
    intro w1 hw1
    have hb1 : Below w'.heap.size w' w1 := by rw [hw1]; exact (by go_grown)
    have K1 : Blk w1 w'.heap.size 26 #[.int .u8 53, .int .i64 num, .string nm, .slice A n cap] := by rw [hw1]; exact (by repeat' (first | assumption | exact Blk.new' (by simp) _ _ | apply Blk.alloc | apply Blk.drew))
    have HK1 := Lib.hid K1; have HB1 := Lib.hid hb1
    clear hw1 hb1
    obtain ⟨z_1, T_1, F_1⟩ := K1.open_
    clear K1
    go_wp2_with fail
    refine (HP.out w1).mono ?_
    rintro en w2 ⟨rfl, hb2⟩
    have HB2 := Lib.hid (HB1.out.next hb2); have K2 := HK1.out.next hb2
    clear T_1 z_1 F_1 hb2
    obtain ⟨z_1, T_1, F_1⟩ := K2.open_
    clear K2
    cases pb with
    | false =>
      go_wp2_with fail
      go_ret
      exact ⟨by simp, HB2.out⟩
    | true =>
      go_wp2_with fail
      refine (HKS.out _ ((HB.out.trans (HB2.out.mono hBw')).trans ((Below.refl _ _).alloc (by have := HB2.out.size; omega) _)) _ _ (Blk.new _ _ _)).mono ?_
      rintro en w3 ⟨rfl, hb3⟩
      have HB3 : Hid (Below w'.heap.size w' w3) := Lib.hid (HB2.out.next (((Below.refl _ _).alloc (Nat.le_refl _) _).next hb3))
      clear T_1 z_1 F_1 hb3
      go_wp2_with fail
      go_ret
      exact ⟨by simp, HB3.out⟩
theorem e_stF {w : World} {B d : Nat} (hBw : B ≤ w.heap.size) (hbl : BlOk w B d) (x : Nd) (hk : x.k = 54) (hx : KV w B (d + 1) x) (w' : World) (hb : Below B w w') :
    Calls Tryz.prog 93 #[.agg #[.int .u8 x.k, .int .i64 x.num, .string x.nm, .slice x.A x.n x.cap]] w' fun en w'' => en = .returned (.bool ((decide (x.num = 0) && nameB x.nm) && (decide (x.n = 3) && allTo (fun i => if i = 0 then exB w B (kidN w B x i) else if i = 1 then blB w B d (kidN w B x i) else exB w B (kidN w B x i)) 3))) ∧ Below w'.heap.size w' w'' := by
  have HP : Hid (∀ W, Calls Tryz.prog 123 #[.agg #[.int .u8 x.k, .int .i64 x.num, .string x.nm, .slice x.A x.n x.cap]] W fun e w' => e = .returned (.bool (decide (x.num = 0) && nameB x.nm)) ∧ Below W.heap.size W w') := Lib.hid fun W => e_named x W
  have HKS : Hid (∀ W, Below B w W → ∀ h t, Blk W h t #[.func (.func 122) #[] #[], .func (.func 54) #[] #[], .func (.func 122) #[] #[]] → Calls Tryz.prog 120 #[.agg #[.int .u8 x.k, .int .i64 x.num, .string x.nm, .slice x.A x.n x.cap], .slice (some ⟨h, 0, none⟩) 3 3] W fun en w'' => en = .returned (.bool (decide (x.n = 3) && allTo (fun i => if i = 0 then exB w B (kidN w B x i) else if i = 1 then blB w B d (kidN w B x i) else exB w B (kidN w B x i)) 3)) ∧ Below W.heap.size W w'') := Lib.hid fun W hW h t hf =>
    e_kidsR hBw x 3 (by omega) (fun i => if i = 0 then 122 else if i = 1 then 54 else 122) (fun i => if i = 0 then exB w B (kidN w B x i) else if i = 1 then blB w B d (kidN w B x i) else exB w B (kidN w B x i)) (fun i hi args W => by
      match i, hi with
      | 0, _ => rfl
      | 1, _ => rfl
      | 2, _ => rfl) (fun hn i hi => by
      match i, hi with
      | 0, _ => obtain ⟨h1, h2⟩ := kidN_kid hx (i := 0) (by omega); exact ⟨_, h1, fun W hW => e_exB hBw _ h2 W hW⟩
      | 1, _ => obtain ⟨h1, h2⟩ := kidN_kid hx (i := 1) (by omega); exact ⟨_, h1, fun W hW => hbl _ h2 W hW⟩
      | 2, _ => obtain ⟨h1, h2⟩ := kidN_kid hx (i := 2) (by omega); exact ⟨_, h1, fun W hW => e_exB hBw _ h2 W hW⟩) W hW h t _ hf (fun i hi => by
      match i, hi with
      | 0, _ => rfl
      | 1, _ => rfl
      | 2, _ => rfl)
  obtain ⟨pb, hpb⟩ : ∃ pb, (decide (x.num = 0) && nameB x.nm) = pb := ⟨_, rfl⟩
  obtain ⟨rk, hrk⟩ : ∃ rk, (decide (x.n = 3) && allTo (fun i => if i = 0 then exB w B (kidN w B x i) else if i = 1 then blB w B d (kidN w B x i) else exB w B (kidN w B x i)) 3) = rk := ⟨_, rfl⟩
  rw [hpb] at HP ⊢
  rw [hrk] at HKS ⊢
  have HB := Lib.hid hb
  have hBw' : B ≤ w'.heap.size := by have := hb.size; omega
  clear hx hb hpb hrk hbl
  obtain ⟨k, num, nm, A, n, cap⟩ := x
  dsimp only at *
  rcases hk with rfl
  · go_enter Tryz.func93, Tryz.ntmps93
    go_upto_region 1 with fail
    refine wp_nameE ?_
    intro w1 hw1
    have hb1 : Below w'.heap.size w' w1 := by rw [hw1]; exact (by go_grown)
    have K1 : Blk w1 w'.heap.size 26 #[.int .u8 54, .int .i64 num, .string nm, .slice A n cap] := by rw [hw1]; exact (by repeat' (first | assumption | exact Blk.new' (by simp) _ _ | apply Blk.alloc | apply Blk.drew))
    have HK1 := Lib.hid K1; have HB1 := Lib.hid hb1
    clear hw1 hb1
    obtain ⟨z_1, T_1, F_1⟩ := K1.open_
    clear K1
    go_wp2_with fail
    refine (HP.out w1).mono ?_
    rintro en w2 ⟨rfl, hb2⟩
    have HB2 := Lib.hid (HB1.out.next hb2); have K2 := HK1.out.next hb2
    clear T_1 z_1 F_1 hb2
    obtain ⟨z_1, T_1, F_1⟩ := K2.open_
    clear K2
    cases pb with
    | false =>
      go_wp2_with fail
      go_ret
      exact ⟨by simp, HB2.out⟩
    | true =>
      go_wp2_with fail
      refine (HKS.out _ ((HB.out.trans (HB2.out.mono hBw')).trans ((Below.refl _ _).alloc (by have := HB2.out.size; omega) _)) _ _ (Blk.new _ _ _)).mono ?_
      rintro en w3 ⟨rfl, hb3⟩
      have HB3 : Hid (Below w'.heap.size w' w3) := Lib.hid (HB2.out.next (((Below.refl _ _).alloc (Nat.le_refl _) _).next hb3))
      clear T_1 z_1 F_1 hb3
      go_wp2_with fail
      go_ret
      exact ⟨by simp, HB3.out⟩
theorem e_stG {w : World} {B d : Nat} (hBw : B ≤ w.heap.size) (hbl : BlOk w B d) (x : Nd) (hk : x.k = 55) (hx : KV w B (d + 1) x) (w' : World) (hb : Below B w w') :
    Calls Tryz.prog 93 #[.agg #[.int .u8 x.k, .int .i64 x.num, .string x.nm, .slice x.A x.n x.cap]] w' fun en w'' => en = .returned (.bool ((decide (x.num = 0) && nameB x.nm) && (decide (x.n = 1) && allTo (fun i => blB w B d (kidN w B x i)) 1))) ∧ Below w'.heap.size w' w'' := by
  have HP : Hid (∀ W, Calls Tryz.prog 123 #[.agg #[.int .u8 x.k, .int .i64 x.num, .string x.nm, .slice x.A x.n x.cap]] W fun e w' => e = .returned (.bool (decide (x.num = 0) && nameB x.nm)) ∧ Below W.heap.size W w') := Lib.hid fun W => e_named x W
  have HKS : Hid (∀ W, Below B w W → ∀ h t, Blk W h t #[.func (.func 54) #[] #[]] → Calls Tryz.prog 120 #[.agg #[.int .u8 x.k, .int .i64 x.num, .string x.nm, .slice x.A x.n x.cap], .slice (some ⟨h, 0, none⟩) 1 1] W fun en w'' => en = .returned (.bool (decide (x.n = 1) && allTo (fun i => blB w B d (kidN w B x i)) 1)) ∧ Below W.heap.size W w'') := Lib.hid fun W hW h t hf =>
    e_kidsR hBw x 1 (by omega) (fun i => 54) (fun i => blB w B d (kidN w B x i)) (fun i hi args W => by
      match i, hi with
      | 0, _ => rfl) (fun hn i hi => by
      match i, hi with
      | 0, _ => obtain ⟨h1, h2⟩ := kidN_kid hx (i := 0) (by omega); exact ⟨_, h1, fun W hW => hbl _ h2 W hW⟩) W hW h t _ hf (fun i hi => by
      match i, hi with
      | 0, _ => rfl)
  obtain ⟨pb, hpb⟩ : ∃ pb, (decide (x.num = 0) && nameB x.nm) = pb := ⟨_, rfl⟩
  obtain ⟨rk, hrk⟩ : ∃ rk, (decide (x.n = 1) && allTo (fun i => blB w B d (kidN w B x i)) 1) = rk := ⟨_, rfl⟩
  rw [hpb] at HP ⊢
  rw [hrk] at HKS ⊢
  have HB := Lib.hid hb
  have hBw' : B ≤ w'.heap.size := by have := hb.size; omega
  clear hx hb hpb hrk hbl
  obtain ⟨k, num, nm, A, n, cap⟩ := x
  dsimp only at *
  rcases hk with rfl
  · go_enter Tryz.func93, Tryz.ntmps93
    go_upto_region 1 with fail
    refine wp_nameE ?_
    intro w1 hw1
    have hb1 : Below w'.heap.size w' w1 := by rw [hw1]; exact (by go_grown)
    have K1 : Blk w1 w'.heap.size 26 #[.int .u8 55, .int .i64 num, .string nm, .slice A n cap] := by rw [hw1]; exact (by repeat' (first | assumption | exact Blk.new' (by simp) _ _ | apply Blk.alloc | apply Blk.drew))
    have HK1 := Lib.hid K1; have HB1 := Lib.hid hb1
    clear hw1 hb1
    obtain ⟨z_1, T_1, F_1⟩ := K1.open_
    clear K1
    go_wp2_with fail
    refine (HP.out w1).mono ?_
    rintro en w2 ⟨rfl, hb2⟩
    have HB2 := Lib.hid (HB1.out.next hb2); have K2 := HK1.out.next hb2
    clear T_1 z_1 F_1 hb2
    obtain ⟨z_1, T_1, F_1⟩ := K2.open_
    clear K2
    cases pb with
    | false =>
      go_wp2_with fail
      go_ret
      exact ⟨by simp, HB2.out⟩
    | true =>
      go_wp2_with fail
      refine (HKS.out _ ((HB.out.trans (HB2.out.mono hBw')).trans ((Below.refl _ _).alloc (by have := HB2.out.size; omega) _)) _ _ (Blk.new _ _ _)).mono ?_
      rintro en w3 ⟨rfl, hb3⟩
      have HB3 : Hid (Below w'.heap.size w' w3) := Lib.hid (HB2.out.next (((Below.refl _ _).alloc (Nat.le_refl _) _).next hb3))
      clear T_1 z_1 F_1 hb3
      go_wp2_with fail
      go_ret
      exact ⟨by simp, HB3.out⟩
end Go.Proofs.YtakfdnnlhjhcfaaGreatDoor
