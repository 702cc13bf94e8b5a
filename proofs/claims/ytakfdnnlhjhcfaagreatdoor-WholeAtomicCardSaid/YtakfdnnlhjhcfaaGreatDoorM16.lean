/- WhFt WhTp. -/
import Derived.Test.YtakfdnnlhjhcfaaGreatDoorM15
import Derived.Deep.DeepCutAuto
import Derived.Shelf.Slices.Delete
import Derived.Shelf.Slices.Cells
import Derived.Shelf.Spec.SlicesInsert
import Derived.Shelf.Spec.SlicesInsertGrow
set_option linter.unusedVariables false
set_option linter.unusedSimpArgs false
set_option linter.unusedSimpArgs false
set_option maxRecDepth 100000
set_option maxHeartbeats 4000000
namespace Bk
def needK (k : Int) : Int := if k = 2 then 1 else if k = 3 then 2 else if k = 4 ∨ k = 5 ∨ k = 44 ∨ k = 45 then 3 else 0
def fstTo (r : Nat → Int) : Nat → Int
  | 0 => 0
  | n + 1 => if fstTo r n ≠ 0 then fstTo r n else r n
theorem fstTo_ne {r : Nat → Int} {j : Nat} : ∀ {n : Nat}, j < n → fstTo r j = 0 → r j ≠ 0 → fstTo r n = r j
  | 0, h, _, _ => absurd h (Nat.not_lt_zero _)
  | n + 1, h, h0, h1 => by
    rcases Nat.lt_succ_iff_lt_or_eq.1 h with h2 | rfl
    · simp only [fstTo]; rw [fstTo_ne h2 h0 h1, if_pos h1]
    · simp only [fstTo]; rw [if_neg (by omega)]
def usN (vs : List Vr) (x : Nd) : Int := if needK x.k = 0 then 0 else useE vs x.nm (needK x.k)
end Bk
namespace Go.Proofs.YtakfdnnlhjhcfaaGreatDoor
open Go.RowKit Bk
theorem c_needs (k : Int) (w : World) : Calls Tryz.prog 156 #[.int .u8 k] w fun e w' => e = .returned (.int .u8 (needK k)) ∧ w = w' := by
  by_cases h : k = 2 ∨ k = 3 ∨ k = 4 ∨ k = 5 ∨ k = 44 ∨ k = 45
  · rcases h with rfl | rfl | rfl | rfl | rfl | rfl
    all_goals
      go_enter Tryz.func156, Tryz.ntmps156
      go_wp2_with fail
      go_ret
      exact ⟨rfl, rfl⟩
  · have e0 : needK k = 0 := by unfold needK; rw [if_neg (by omega), if_neg (by omega), if_neg (by omega)]
    rw [e0]
    have k2 : (k == 2) = false := beq_eq_false_iff_ne.2 (by omega)
    have k3 : (k == 3) = false := beq_eq_false_iff_ne.2 (by omega)
    have k4 : (k == 4) = false := beq_eq_false_iff_ne.2 (by omega)
    have k5 : (k == 5) = false := beq_eq_false_iff_ne.2 (by omega)
    have k44 : (k == 44) = false := beq_eq_false_iff_ne.2 (by omega)
    have k45 : (k == 45) = false := beq_eq_false_iff_ne.2 (by omega)
    clear h e0
    go_enter Tryz.func156, Tryz.ntmps156
    go_wp2_with fail
    go_ret
    exact ⟨rfl, rfl⟩
theorem FindX.fix (vs : List Vr) (name : ByteArray) : ∃ (fn : ByteArray) (fk fl : Int) (fb : Bool), (∀ e, FindX vs name e → e = .returned (.tuple #[.agg #[.string fn, .int .u8 fk, .int .i64 fl], .bool fb])) ∧ ∀ kd, useE vs name kd = if fb = false then 6 else if fk ≠ kd then 7 else 0 := by
  unfold FindX useE
  cases (findV name vs).bind fun i => vs[i]? with
  | none => exact ⟨_, _, _, false, fun e h => h, fun kd => rfl⟩
  | some v => exact ⟨_, _, _, true, fun e h => h, fun kd => by simp⟩
theorem wpAnyH_atN {P : Program} {md : Region.Mode} {ops : Array Oper} {Q : Exit → Act → World → Prop} {S : World → Prop} {fuel : Nat} {listed : Array Bool} {a : Act} {w : World} (h : ∀ w', w' = w → wpAnyH P md ops Q S fuel listed a w') : wpAnyH P md ops Q S fuel listed a w := h w rfl
def FtOk (w : World) (B : Nat) (b o : Nat) (x : Nd) (r : Int) : Prop := ∀ w', Below B w w' → Calls Tryz.prog 136 #[.pointer (some ⟨b, o, none⟩), .agg #[.int .u8 x.k, .int .i64 x.num, .string x.nm, .slice x.A x.n x.cap]] w' fun e w'' => e = .returned (.int .i64 r) ∧ Below w'.heap.size w' w''
section
variable {w : World} {B b o nv cv : Nat} {V : Option Addr} {vs : List Vr}
theorem ft_node (hBw : B ≤ w.heap.size) (hbB : b < B) (hc : w.cell? ⟨b, o, none⟩ = some (.slice V nv cv)) (hv : VsAt w B V vs) (hnv : vs.length = nv) (hnv2 : nv ≤ 17592186043904) (x : Nd) (hxn : x.n ≤ 17592186043904) (rs : Nat → Int) (hkid : ∀ i, i < x.n → ∃ y, Kid w B x i y ∧ FtOk w B b o y (rs i)) :
    FtOk w B b o x (if usN vs x ≠ 0 then usN vs x else fstTo rs x.n) := by
  intro w' hb
  obtain ⟨fn, fk, fl, fb, hfx, huse⟩ := FindX.fix vs x.nm
  have HFD : Hid (∀ W, Below B w W → Calls Tryz.prog 55 #[.slice V nv cv, .string x.nm] W fun en w'' => en = .returned (.tuple #[.agg #[.string fn, .int .u8 fk, .int .i64 fl], .bool fb]) ∧ Below W.heap.size W w'') := Lib.hid fun W hW => (e_scFind hBw V nv cv vs hv hnv hnv2 x.nm W hW).mono fun e w' h => ⟨hfx e h.1, h.2⟩
  have HN := Lib.hid (fun W => c_needs x.k W)
  have HB := Lib.hid hb; have HC := Lib.hid hc; have HKID := Lib.hid hkid
  have hBw' : B ≤ w'.heap.size := by have := hb.size; omega
  obtain ⟨u, hu⟩ : ∃ u, usN vs x = u := ⟨_, rfl⟩
  obtain ⟨q, hq⟩ : ∃ q, (if u ≠ 0 then u else fstTo rs x.n) = q := ⟨_, rfl⟩
  rw [hu, hq]
  have HU : Hid (u = if needK x.k = 0 then 0 else if fb = false then 6 else if fk ≠ needK x.k then 7 else 0) := Lib.hid (by rw [← hu]; unfold usN; rw [huse])
  have HQ := Lib.hid hq
  generalize needK x.k = nk at *
  clear hv hnv hb hc hkid hfx huse hu hq
  obtain ⟨k, num, nm, A, n, cap⟩ := x
  dsimp only at *
  go_enter Tryz.func136, Tryz.ntmps136
  go_upto_region 1 with fail
  refine wp_nameE ?_
  intro w1 hw1
  have hb1 : Below w'.heap.size w' w1 := (by rw [hw1]; exact (by go_grown))
  have K1 : Blk w1 w'.heap.size 26 #[.int .u8 k, .int .i64 num, .string nm, .slice A n cap] := (by rw [hw1]; exact blkA)
  have HK1 := Lib.hid K1; have HB1 := Lib.hid hb1
  clear hw1 hb1
  obtain ⟨z_1, T_1, F_1⟩ := K1.open_
  clear K1
  go_wp2_with fail
  refine (HN.out w1).mono ?_
  rintro en w2 ⟨rfl, rfl⟩
  have K2 := HK1.out
  clear T_1 z_1 F_1 K2
  have hBw1 : B ≤ w1.heap.size := by have := HB1.out.size; omega
  have HBv : Hid (Below B w w1) := Lib.hid (HB.out.trans (HB1.out.mono hBw'))
  have HZ : Hid (∀ W, Below w1.heap.size w1 W → W.cell? ⟨b, o, none⟩ = some (.slice V nv cv)) := Lib.hid fun W hW => (hW.cell (p := ⟨b, o, none⟩) (Nat.lt_of_lt_of_le hbB hBw1)).trans ((HBv.out.cell (p := ⟨b, o, none⟩) hbB).trans HC.out)
  go_upto_if 15 with fail
  go_cut [4] (fun v4 wx => u = 0 ∧ v4 = .int .i64 0 ∧ Below w1.heap.size w1 wx)
  case first =>
    by_cases h0 : nk = 0
    · have hne : (nk != 0) = false := bne_eq_false_iff_eq.2 h0
      have HU0 : Hid (u = 0) := Lib.hid (by rw [HU.out, if_pos h0])
      clear h0
      go_wp2_with fail
      go_meet
      exact ⟨HU0.out, rfl, Below.refl _ _⟩
    · have hne : (nk != 0) = true := bne_iff_ne.2 h0
      have HU0 : Hid (u = if fb = false then 6 else if fk ≠ nk then 7 else 0) := Lib.hid (by rw [HU.out, if_neg h0])
      clear h0
      go_wp2_with fail
      refine wp_region_held_drew (S := fun W => Below w1.heap.size w1 W) (by kernel_rfl) ((Below.refl _ _).drew) (fun hH => ?_)
      refine wpAnyH_atN ?_
      intro wa hwa
      have hX : Below w1.heap.size w1 wa := by rw [hwa]; exact (Below.refl _ _).drew
      replace hH := hX
      clear hwa
      refine tkQ 0 (v := ?_) rfl hH ?_
      (try simp only [PU, Act.put])
      refine tkQ 1 (v := ?_) rfl hH ?_
      (try simp only [PU, Act.put])
      refine tkQ 2 (v := ?_) rfl hH ?_
      (try simp only [PU, Act.put])
      refine tkK 3 (v := ?_) rfl ?hy hH ?_
      case hy => (intro w9_ hS9; have t := HZ.out _ hS9; clear hS9; go_simp; try with_reducible rfl)
      (try simp only [PU, Act.put])
      refine tkQ 4 (v := ?_) rfl hH ?_
      (try simp only [PU, Act.put])
      refine tkK 5 (v := ?_) rfl ?hy hH ?_
      case hy => (intro w9_ hS9; have t := (HK1.out.next hS9).cell; clear hS9; go_simp; try with_reducible rfl)
      (try simp only [PU, Act.put])
      refine wpAnyH_ready (rs := [6, 10]) (by kernel_rfl) (by simp) ?_
      refine AllReadyH.cons rfl (fun K hK => ?_) (AllReadyH.cons rfl (fun K hK => ?_) (AllReadyH.nil))
      go_simp
      refine (HFD.out _ (HBv.out.trans (hX.mono hBw1))).mono ?_
      rintro en wb ⟨rfl, hbn⟩
      replace hX := hX.next hbn
      clear hbn
      refine hK.out _ _ hX (fun hH => ?_)
      clear hK
      (try simp only [PU, Act.put])
      refine tkQ 7 (v := ?_) rfl hH ?_
      (try simp only [PU, Act.put])
      refine tkQ 8 (v := ?_) rfl hH ?_
      (try simp only [PU, Act.put])
      refine tkQ 9 (v := ?_) rfl hH ?_
      (try simp only [PU, Act.put])
      refine nxH 10 (by kernel_rfl) rfl (fun K hK => ?_)
      go_simp
      refine hK.out _ _ (hX.next ((Below.refl _ _).alloc (Nat.le_refl _) _)) (fun hH => ?_)
      clear hK
      (try simp only [PU, Act.put])
      refine wpAnyH_atN ?_
      intro wc hwn
      have hbn : Below wb.heap.size wb wc := by rw [hwn]; exact (Below.refl _ _).alloc (Nat.le_refl _) _
      have HKV := Lib.hid (show Blk wc wb.heap.size 72 #[.string ⟨#[]⟩, .int .u8 0, .int .i64 0] by rw [hwn]; exact Blk.new _ _ _)
      have hvb : w1.heap.size ≤ wb.heap.size := hX.size
      replace hX := hX.next hbn
      replace hH := hX
      clear hwn hbn
      refine nxH 11 (by kernel_rfl) rfl (fun K hK => ?_)
      obtain ⟨z_v, T_v, F_v⟩ := HKV.out.open_
      go_simp
      refine hK.out _ _ (((hX.setCell hvb _).setCell hvb _).setCell hvb _) (fun hH => ?_)
      clear hK
      (try simp only [PU, Act.put])
      refine wpAnyH_atN ?_
      intro wd hwn
      have HK2 := Lib.hid (show Blk wd wb.heap.size 72 #[.string fn, .int .u8 fk, .int .i64 fl] by rw [hwn]; simpa using ((HKV.out.set_ 0 (.string fn)).set_ 1 (.int .u8 fk)).set_ 2 (.int .i64 fl))
      replace hX : Below w1.heap.size w1 wd := by rw [hwn]; exact hH
      replace hH := hX
      clear T_v z_v F_v hwn HKV
      refine tkQ 12 (v := ?_) rfl hH ?_
      (try simp only [PU, Act.put])
      refine wpAnyH_done (by kernel_rfl) ?_ _
      generalize hvq : wb.heap.size = vq at *
      have HX := Lib.hid hX
      clear hX hH hvb hvq
      generalize wd = w3 at *
      rotate_left
      go_simp
      refine hK.out _ _ (hX.next ((Below.refl _ _).alloc (Nat.le_refl _) _)) (fun hH => ?_)
      clear hK
      (try simp only [PU, Act.put])
      refine wpAnyH_atN ?_
      intro wb hwn
      have hbn : Below wa.heap.size wa wb := by rw [hwn]; exact (Below.refl _ _).alloc (Nat.le_refl _) _
      have HKV := Lib.hid (show Blk wb wa.heap.size 72 #[.string ⟨#[]⟩, .int .u8 0, .int .i64 0] by rw [hwn]; exact Blk.new _ _ _)
      have hvb : w1.heap.size ≤ wa.heap.size := hX.size
      replace hX := hX.next hbn
      replace hH := hX
      clear hwn hbn
      refine nxH 6 (by kernel_rfl) rfl (fun K hK => ?_)
      go_simp
      refine (HFD.out _ (HBv.out.trans (hX.mono hBw1))).mono ?_
      rintro en wc ⟨rfl, hbn⟩
      replace hX := hX.next hbn
      replace HKV := Lib.hid (HKV.out.next hbn)
      clear hbn
      refine hK.out _ _ hX (fun hH => ?_)
      clear hK
      (try simp only [PU, Act.put])
      refine tkQ 7 (v := ?_) rfl hH ?_
      (try simp only [PU, Act.put])
      refine tkQ 8 (v := ?_) rfl hH ?_
      (try simp only [PU, Act.put])
      refine tkQ 9 (v := ?_) rfl hH ?_
      (try simp only [PU, Act.put])
      refine nxH 11 (by kernel_rfl) rfl (fun K hK => ?_)
      obtain ⟨z_v, T_v, F_v⟩ := HKV.out.open_
      go_simp
      refine hK.out _ _ (((hX.setCell hvb _).setCell hvb _).setCell hvb _) (fun hH => ?_)
      clear hK
      (try simp only [PU, Act.put])
      refine wpAnyH_atN ?_
      intro wd hwn
      have HK2 := Lib.hid (show Blk wd wa.heap.size 72 #[.string fn, .int .u8 fk, .int .i64 fl] by rw [hwn]; simpa using ((HKV.out.set_ 0 (.string fn)).set_ 1 (.int .u8 fk)).set_ 2 (.int .i64 fl))
      replace hX : Below w1.heap.size w1 wd := by rw [hwn]; exact hH
      replace hH := hX
      clear T_v z_v F_v hwn HKV
      refine tkQ 12 (v := ?_) rfl hH ?_
      (try simp only [PU, Act.put])
      refine wpAnyH_done (by kernel_rfl) ?_ _
      generalize hvq : wa.heap.size = vq at *
      have HX := Lib.hid hX
      clear hX hH hvb hvq
      generalize wd = w3 at *
      all_goals
        obtain ⟨z_1, T_1, F_1⟩ := HK2.out.open_
        cases fb with
        | false =>
          obtain rfl : u = 6 := HU0.out
          obtain rfl : q = 6 := HQ.out.symm
          go_wp2_with fail
          go_ret
          exact ⟨rfl, HB1.out.next HX.out⟩
        | true =>
          by_cases hkk : fk = nk
          · have hnk : (fk != nk) = false := bne_eq_false_iff_eq.2 hkk
            have HUZ : Hid (u = 0) := Lib.hid (by rw [HU0.out]; simp [hkk])
            clear hkk
            go_wp2_with fail
            go_meet
            exact ⟨HUZ.out, rfl, HX.out⟩
          · have hnk : (fk != nk) = true := bne_iff_ne.2 hkk
            obtain rfl : u = 7 := by rw [HU0.out]; simp [hkk]
            obtain rfl : q = 7 := HQ.out.symm
            clear hkk
            go_wp2_with fail
            go_ret
            exact ⟨rfl, HB1.out.next HX.out⟩
  case rest =>
    obtain ⟨rfl, rfl, hbx⟩ := hcut
    have HBX := Lib.hid hbx
    have HKX := Lib.hid (HK1.out.next hbx)
    clear hbx
    obtain ⟨z_1, T_1, F_1⟩ := HKX.out.open_
    go_wp2_with fail
    have HQ0 : Hid (fstTo rs n = q) := Lib.hid (by rw [← HQ.out]; simp)
    clear T_1 z_1 F_1 HU HQ
    go_loopw [35] (fun v35 wr => ∃ j : Nat, j ≤ n ∧ v35 = .int .i64 j ∧ fstTo rs j = 0 ∧ Below wc.heap.size wc wr) (fun v _ => n - (intOf v).toNat)
    case atStart => exact ⟨0, Nat.zero_le _, rfl, rfl, Below.refl _ _⟩
    case round =>
      obtain ⟨j, hj, rfl, hfj, hbr⟩ := hrel
      have HFJ := Lib.hid hfj; have HBR := Lib.hid (HBX.out.next hbr)
      have HXR := Lib.hid hbr
      clear hfj hbr
      by_cases hjn : j < n
      · obtain ⟨y, hky, hoy⟩ := HKID.out j hjn
        obtain ⟨g, oo, hA2, hgB, c0, c1, c2, c3⟩ := hky.cells (HBv.out.trans (HBR.out.mono hBw1))
        simp only at hA2
        subst hA2
        have HOY := Lib.hid hoy
        have j0 : (0 : Int) ≤ (j : Int) := by omega
        have j1 : (j : Int) < (n : Int) := by omega
        clear hky hoy
        go_upto_region 11 with fail
        refine wp_nameE ?_
        intro w5 hw5
        have hb5 : Below wr.heap.size wr w5 := by rw [hw5]; exact (by go_grown)
        have KY : Blk w5 wr.heap.size 26 #[.int .u8 y.k, .int .i64 y.num, .string y.nm, .slice y.A y.n y.cap] := by rw [hw5]; exact blkA
        have HX5 := Lib.hid (HBR.out.next hb5)
        have HX6 := Lib.hid (HXR.out.next hb5)
        clear hw5 c0 c1 c2 c3 hb5
        obtain ⟨z_1, T_1, F_1⟩ := KY.open_
        clear KY
        go_wp2_with fail
        refine (HOY.out w5 (HBv.out.trans (HX5.out.mono hBw1))).mono ?_
        rintro en w6 ⟨rfl, hb6⟩
        have HB6 := Lib.hid (HX5.out.next hb6)
        have HC6 := Lib.hid (HX6.out.next hb6)
        clear hb6 T_1 z_1 F_1
        by_cases hr : rs j = 0
        · have hne : (rs j != 0) = false := bne_eq_false_iff_eq.2 hr
          have HRJ := Lib.hid hr
          clear hr
          go_wp2_with fail
          exact ⟨⟨j + 1, by omega, by go_num, by simp only [fstTo]; rw [HFJ.out, HRJ.out]; rfl, HC6.out⟩, by simp [intOf]; omega⟩
        · have hne : (rs j != 0) = true := bne_iff_ne.2 hr
          obtain rfl : q = rs j := by rw [← HQ0.out, fstTo_ne hjn HFJ.out hr]
          clear hr
          go_wp2_with fail
          go_ret
          exact ⟨rfl, HB1.out.next HB6.out⟩
      · obtain rfl : j = n := by omega
        obtain rfl : q = 0 := by rw [← HQ0.out, HFJ.out]
        go_wp2_with fail
        go_ret
        exact ⟨rfl, HB1.out.next HBR.out⟩
end
end Go.Proofs.YtakfdnnlhjhcfaaGreatDoor
namespace Go.Proofs
open Go.Shelf
def Tryz.laysNm221_ren : Go.Shelf.Ren := ⟨fun | 21 => 207 | 27 => 212 | 28 => 213 | 35 => 216 | 39 => 221 | n => n, fun | 22 => 30 | 3 => 3 | 4 => 4 | 0 => 0 | n => n, fun | n => n⟩
theorem Tryz.laysNm221 : Go.Proofs.Lays2.n21 Tryz.prog Tryz.laysNm221_ren := {
  mixed := by kernel_rfl
  f21 := Tryz.func207.trans (congrArg some (by kernel_rfl))
  f27 := Tryz.func212.trans (congrArg some (by kernel_rfl))
  f28 := Tryz.func213.trans (congrArg some (by kernel_rfl))
  f35 := Tryz.func216.trans (congrArg some (by kernel_rfl))
  f39 := Tryz.func221.trans (congrArg some (by kernel_rfl))
  t0 := Tryz.underlying0
  a0 := Tryz.isAgg0
  z0 := Tryz.sizeOf0
  v0 := Tryz.zeroValue0
  t3 := Tryz.underlying3
  a3 := Tryz.isAgg3
  z3 := Tryz.sizeOf3
  v3 := Tryz.zeroValue3
  t4 := Tryz.underlying4
  a4 := Tryz.isAgg4
  z4 := Tryz.sizeOf4
  v4 := Tryz.zeroValue4
  t22 := Tryz.underlying30
  a22 := Tryz.isAgg30
  z22 := Tryz.sizeOf30
  v22 := Tryz.zeroValue30
  i3 := by kernel_rfl }
def Tryz.laysNm223_ren : Go.Shelf.Ren := ⟨fun | 23 => 206 | n => n, fun | 22 => 30 | 3 => 3 | 4 => 4 | 0 => 0 | n => n, fun | n => n⟩
theorem Tryz.laysNm223 : Go.Proofs.Lays2.n23 Tryz.prog Tryz.laysNm223_ren := {
  mixed := by kernel_rfl
  f23 := Tryz.func206.trans (congrArg some (by kernel_rfl))
  t0 := Tryz.underlying0
  a0 := Tryz.isAgg0
  z0 := Tryz.sizeOf0
  v0 := Tryz.zeroValue0
  t3 := Tryz.underlying3
  a3 := Tryz.isAgg3
  z3 := Tryz.sizeOf3
  v3 := Tryz.zeroValue3
  t4 := Tryz.underlying4
  a4 := Tryz.isAgg4
  z4 := Tryz.sizeOf4
  v4 := Tryz.zeroValue4
  t22 := Tryz.underlying30
  a22 := Tryz.isAgg30
  z22 := Tryz.sizeOf30
  v22 := Tryz.zeroValue30
  i3 := by kernel_rfl }
end Go.Proofs
namespace Bk
open Go Go.RowKit
theorem Blk.setCells {g : Nat} {t : TypeId} : ∀ (vs : List Value) (o : Nat) {w : World} {cur : Array Value}, Blk w g t cur → ∃ cur', Blk (w.setCells g o vs) g t cur' ∧ cur'.size = cur.size ∧ ∀ j : Nat, cur'[j]? = if o ≤ j ∧ j < o + vs.length ∧ j < cur.size then vs[j - o]? else cur[j]?
  | [], o, w, cur, h => ⟨cur, h, rfl, fun j => by rw [if_neg (by simp; omega)]⟩
  | v :: r, o, w, cur, h => by
    obtain ⟨cur', h1, h2, h3⟩ := Blk.setCells r (o + 1) (h.set_ o v)
    refine ⟨cur', h1, by rw [h2]; simp, fun j => ?_⟩
    rw [h3 j]
    simp only [Array.size_setIfInBounds, List.length_cons, Array.getElem?_setIfInBounds]
    by_cases hj : j = o
    · subst hj
      rw [if_neg (by omega), if_pos rfl]
      by_cases hs : j < cur.size
      · rw [if_pos hs, if_pos ⟨Nat.le_refl _, by omega, hs⟩, Nat.sub_self]; rfl
      · rw [if_neg hs, if_neg (by omega), Array.getElem?_eq_none (by omega)]
    · have hj' : ¬ o = j := fun e => hj e.symm
      simp only [if_neg hj']
      by_cases hc : o + 1 ≤ j ∧ j < o + 1 + r.length ∧ j < cur.size
      · rw [if_pos hc, if_pos (by omega)]
        rw [show j - o = (j - (o + 1)) + 1 by omega, List.getElem?_cons_succ]
      · rw [if_neg hc, if_neg (by omega)]
theorem Fr.setCells {g : Nat} {O : Nat → Prop} (hO : O g) : ∀ (vs : List Value) (o : Nat) {w w' : World}, Fr O w w' → Fr O w (w'.setCells g o vs)
  | [], _, _, _, h => h
  | v :: r, o, _, _, h => Fr.setCells hO r (o + 1) (h.set hO v)
theorem own_of_get {w : World} {base g n cp : Nat} {t : TypeId} {cur : Array Value} {xs : List Value} (h : Blk w g t cur) (hg : base ≤ g) (hn : n ≤ cp) (hc : cp ≤ maxLen) (hs : cur.size = cp) (hl : xs.length = n) (hx : ∀ (j : Nat) (u : Value), xs[j]? = some u → cur[j]? = some u) : w.ownsRow base t 1 (.slice (some ⟨g, 0, none⟩) n cp) n xs := by
  refine ⟨by omega, .inr ⟨g, cp, cur, rfl, hg, h, hn, hc, by omega, ?_⟩⟩
  refine List.ext_getElem? fun j => ?_
  rw [List.getElem?_take]
  by_cases hj : j < n
  · rw [if_pos (by omega)]
    have := hx j _ (List.getElem?_eq_getElem (by omega))
    rw [List.getElem?_eq_getElem (l := xs) (by omega), Array.getElem?_toList]; exact this
  · rw [if_neg (by omega), List.getElem?_eq_none (by omega)]
theorem own_row1 {w : World} {base : Nat} {e : TypeId} {n g cp : Nat} {xs : List Value} (h : w.ownsRow base e 1 (.slice (some ⟨g, 0, none⟩) n cp) n xs) : ∃ cur, Blk w g e cur ∧ cur.size = cp ∧ base ≤ g ∧ n ≤ cp ∧ cp ≤ maxLen ∧ xs.length = n ∧ ∀ (j : Nat) (u : Value), xs[j]? = some u → cur[j]? = some u := by
  have hl := h.1
  rcases h.2 with ⟨e1, _⟩ | ⟨g', cap', cur, e1, hg, hh, h3, h4, h5, h6⟩
  · simp at e1
  · injection e1 with e1 _ e2
    injection e1 with e1
    injection e1 with e1 _ _
    subst e1; subst e2
    refine ⟨cur, hh, by omega, hg, h3, h4, by omega, fun j u hu => ?_⟩
    rw [← h6, List.getElem?_take] at hu
    split at hu
    · simpa using hu
    · cases hu
theorem shape_blk {w : World} {g : Nat} {t : TypeId} {cs : Array Value} (h : Blk w g t cs) : w.shape? g = some (t, cs.size) := by
  unfold Blk at h; unfold World.shape?; rw [h]
end Bk
namespace Go.Proofs.YtakfdnnlhjhcfaaGreatDoor
open Go.RowKit Bk
def InsP (w : World) (B : Nat) (v : Value) (l : List Int) (e : Ending) (w' : World) : Prop := ∃ v', e = .returned v' ∧ w'.ownsRow B 3 1 v' l.length (intCells l) ∧ Fr (fun k => v.ownBlock = some k) w w' ∧ ∀ k, v'.ownBlock = some k → v.ownBlock = some k ∨ w.heap.size ≤ k
theorem info_int8T : (Tryz.prog.info? 3).map (fun i => (i.zero, i.size, i.bytes)) = some (some (.int .i64 0), 1, 8) := by kernel_rfl
theorem intCells_len (l : List Int) : (intCells l).length = l.length := by simp [intCells]
theorem c_InsEnd {w : World} {B : Nat} {v : Value} {l : List Int} (h : w.ownsRow B 3 1 v l.length (intCells l)) (hB : B ≤ w.heap.size) (hl : l.length ≤ 100000) (x : Int) {vb : Nat} (hvb : Blk w vb 3 #[.int .i64 x]) :
    Calls Tryz.prog 207 #[v, .int .i64 l.length, .slice (some ⟨vb, 0, none⟩) 1 1] w fun e w' => InsP w B v (l ++ [x]) e w' := by
  have hvs : ∀ (j : Nat) (u : Value), [Value.int .i64 x][j]? = some u → w.cell? ⟨vb, 0 + j, none⟩ = some u := fun j u hu => by rw [Nat.zero_add, hvb.cell j]; simpa using hu
  have h1v : ∀ u ∈ [Value.int .i64 x], u.oneCell' = true := by simp [Value.oneCell']
  have hic : intCells (l ++ [x]) = intCells l ++ [.int .i64 x] := by simp [intCells]
  obtain ⟨A, c, rfl⟩ := own_form h
  by_cases hr : l.length + 1 ≤ c
  · cases A with
    | none => rcases h.2 with ⟨e1, _⟩ | ⟨g', cap', cur, e1, _⟩; (simp at e1; omega); simp at e1
    | some ad =>
      obtain ⟨g, o, sp⟩ := ad
      have e0 : (⟨g, o, sp⟩ : Addr) = ⟨g, 0, none⟩ := by
        rcases h.2 with ⟨e1, _⟩ | ⟨g', cap', cur, e1, _⟩
        · simp at e1
        · simp at e1; simp [e1]
      rw [e0] at h ⊢
      obtain ⟨cur, hb, hs, hg, hn, hc, hxl, hx⟩ := own_row1 h
      have hmx : c ≤ 9223372036854775807 := by unfold maxLen at hc; omega
      have hC := Any2.slices_Insert_int_end_room Tryz.laysNm221 g 0 l.length c vb 0 1 1 [.int .i64 x] w (by decide) hr hmx rfl (fun j hj => by rw [show 0 + l.length + j = l.length by omega, hb.cell, Array.getElem?_eq_getElem (by omega)]; rfl) (fun j _ => hb.frozen _) hvs h1v
      refine hC.mono ?_
      rintro e w' ⟨rfl, rfl⟩
      obtain ⟨cur', k1, k2, k3⟩ := hb.setCells [.int .i64 x] (0 + l.length)
      refine ⟨_, rfl, ?_, Fr.setCells (O := fun k => (Value.slice (some ⟨g, 0, none⟩) l.length c).ownBlock = some k) rfl _ _ (Fr.refl _ _), fun k hk => .inl hk⟩
      rw [List.length_append]
      refine own_of_get k1 hg hr hc (by omega) (by simp [intCells]) fun j u hu => ?_
      rw [hic] at hu
      rw [k3 j]
      have hju := (List.getElem?_eq_some_iff.1 hu).1
      simp only [List.length_append, intCells_len, List.length_cons, List.length_nil] at hju
      rcases Nat.lt_or_ge j l.length with hj | hj
      · rw [if_neg (by omega)]
        rw [List.getElem?_append_left (by rw [intCells_len]; exact hj)] at hu
        exact hx j u hu
      · obtain rfl : j = l.length := by omega
        rw [if_pos (by simp; omega)]
        rw [List.getElem?_append_right (by rw [intCells_len]; omega)] at hu
        simpa [intCells_len] using hu
  · have hcs : ∀ a, A = some a → ∀ (j : Nat) (u : Value), (intCells l)[j]? = some u → w.cell? (a.add j) = some u := fun a ha j u hu => by
      subst ha
      have hj := (List.getElem?_eq_some_iff.1 hu).1
      rw [intCells_len] at hj
      obtain ⟨g, cap, e, _, _, _, _, h3⟩ := own_some h (by omega)
      injection e with e _ _
      injection e with e
      subst e
      rw [addr_add', Nat.zero_add]
      exact h3 j u hu
    have hnc : l.length ≤ c ∧ (A = none → l.length = 0) := by
      rcases h.2 with ⟨e1, e2⟩ | ⟨g', cap', cur, e1, _, _, h3, _⟩
      · simp at e1; omega
      · simp at e1; exact ⟨by omega, fun hA => by rw [e1.1] at hA; cases hA⟩
    obtain ⟨i3, li, lz, ls, lb⟩ := info_parts info_int8T
    have hC := Any2.slices_Insert_int_end_grow Tryz.laysNm221 A l.length c vb 0 1 1 (intCells l) [.int .i64 x] w (by decide) hnc.1 (by omega) (by omega) (intCells_len l) rfl hnc.2 hcs hvs h1v
    refine hC.mono ?_
    rintro e w' ⟨rfl, rfl⟩
    have hge := grownCap_ge w (l.length + 1) c 3
    have hcm : grownCap w (l.length + 1) c 3 ≤ maxLen := grownCap_le_maxLen w (l.length + 1) c 3 (by unfold maxLen; omega)
    rw [show Tryz.laysNm221_ren.t 3 = 3 from rfl]
    refine ⟨_, rfl, ?_, Fr.of ((Below.refl _ _).drew.alloc (Nat.le_refl _) _), fun k hk => .inr (by simp [Value.ownBlock] at hk; omega)⟩
    rw [List.length_append]
    refine own_of_get (Blk.new w.drew 3 _) hB hge hcm ?_ (by simp [intCells]) fun j u hu => ?_
    · simp only [Array.size_append, List.size_toArray, size_zeroCells, List.length_append, intCells_len, List.length_cons, List.length_nil]
      show _ + _ * 1 = grownCap w (l.length + 1) c 3
      omega
    · rw [hic] at hu
      have hju := (List.getElem?_eq_some_iff.1 hu).1
      rw [Array.getElem?_append_left (by simpa using hju)]
      simpa using hu
theorem c_InsHead {w : World} {B : Nat} {v : Value} {l : List Int} (h : w.ownsRow B 3 1 v l.length (intCells l)) (hB : B ≤ w.heap.size) (hl : l.length ≤ 100000) (x : Int) {vb : Nat} (hvb : Blk w vb 3 #[.int .i64 x]) (hne : v.ownBlock ≠ some vb) :
    Calls Tryz.prog 207 #[v, .int .i64 0, .slice (some ⟨vb, 0, none⟩) 1 1] w fun e w' => InsP w B v (x :: l) e w' := by
  rcases Nat.eq_zero_or_pos l.length with h0 | h0
  · obtain rfl := List.eq_nil_of_length_eq_zero h0
    exact c_InsEnd h hB hl x hvb
  have hvs : ∀ (j : Nat) (u : Value), [Value.int .i64 x][j]? = some u → w.cell? ⟨vb, 0 + j, none⟩ = some u := fun j u hu => by rw [Nat.zero_add, hvb.cell j]; simpa using hu
  have h1v : ∀ u ∈ [Value.int .i64 x], u.oneCell' = true := by simp [Value.oneCell']
  have h1c : ∀ u ∈ intCells l, u.oneCell' = true := by simp [intCells, Value.oneCell']
  have hic : intCells (x :: l) = .int .i64 x :: intCells l := by simp [intCells]
  obtain ⟨g, c, rfl, hg, hgl, _, _, hcl⟩ := own_some h h0
  obtain ⟨cur, hb, hs, _, hn, hc, hxl, hx⟩ := own_row1 h
  have hcs : ∀ (j : Nat) (u : Value), (intCells l)[j]? = some u → w.cell? ⟨g, 0 + j, none⟩ = some u := fun j u hu => by rw [Nat.zero_add]; exact hcl j u hu
  have hmx : c ≤ 9223372036854775807 := by unfold maxLen at hc; omega
  have hvg : vb ≠ g := fun e => hne (by rw [e]; rfl)
  by_cases hr : l.length + 1 ≤ c
  · have hC := Any2.slices_Insert_int_shift Tryz.laysNm221 g 0 l.length c 0 vb 0 1 1 (intCells l) [.int .i64 x] w h0 (by decide) hr hmx hvg (intCells_len l) rfl hcs (fun j hj => by rw [Nat.zero_add, hb.cell, Array.getElem?_eq_getElem (by omega)]; rfl) (fun j _ => hb.frozen _) hvs h1c h1v 3 3 1 cur.size (shape_blk hvb) (shape_blk hb) (by omega) (hvb.frozen _) (hvb.frozen _)
    refine hC.mono ?_
    rintro e w' ⟨rfl, rfl⟩
    obtain ⟨cur1, k1, k2, k3⟩ := hb.drew.setCells ((intCells l).drop 0) (0 + (0 + 1))
    obtain ⟨cur2, m1, m2, m3⟩ := k1.setCells [.int .i64 x] (0 + 0)
    refine ⟨_, rfl, ?_, Fr.setCells (O := fun k => (Value.slice (some ⟨g, 0, none⟩) l.length c).ownBlock = some k) rfl _ _ (Fr.setCells (O := fun k => (Value.slice (some ⟨g, 0, none⟩) l.length c).ownBlock = some k) rfl _ _ (Fr.refl _ _).drew), fun k hk => .inl hk⟩
    rw [List.length_cons]
    refine own_of_get m1 hg hr hc (by omega) (by simp [intCells]) fun j u hu => ?_
    rw [hic] at hu
    have hju := (List.getElem?_eq_some_iff.1 hu).1
    simp only [List.length_cons, intCells_len] at hju
    rw [m3 j, k3 j, k2]
    simp only [List.length_cons, List.length_nil, List.drop_zero, intCells_len]
    cases j with
    | zero => rw [if_pos (by omega)]; exact hu
    | succ j =>
      rw [if_neg (by omega), if_pos (by omega), show j + 1 - (0 + (0 + 1)) = j by omega]
      exact hu
  · have hC := Any2.slices_Insert_int_grow Tryz.laysNm221 g 0 l.length c 0 vb 0 1 1 (intCells l) [.int .i64 x] w h0 (by decide) hn (by omega) (by omega) (intCells_len l) rfl hcs hvs h1c h1v
    refine hC.mono ?_
    rintro e w' ⟨rfl, rfl⟩
    have hge := grownCap_ge w (l.length + 1) c 3
    have hcm : grownCap w (l.length + 1) c 3 ≤ maxLen := grownCap_le_maxLen w (l.length + 1) c 3 (by unfold maxLen; omega)
    obtain ⟨cu, hcu⟩ : ∃ cu, cu = ((intCells l).take 0).toArray ++ Builtin.zeroCells (Value.int .i64 0).cells (l.length + 1 - 0) ++ Builtin.zeroCells (Value.int .i64 0).cells (grownCap w (l.length + 1) c 3 - (l.length + 1)) := ⟨_, rfl⟩
    have hcz : cu.size = grownCap w (l.length + 1) c 3 := by
      rw [hcu]
      simp only [Array.size_append, List.size_toArray, size_zeroCells, List.take_zero, List.length_nil]
      show 0 + (l.length + 1 - 0) * 1 + (grownCap w (l.length + 1) c 3 - (l.length + 1)) * 1 = _
      omega
    show InsP w B _ (x :: l) (.returned (.slice (some ⟨w.heap.size, 0, none⟩) (l.length + 1) (grownCap w (l.length + 1) c 3))) ((((w.alloc (.cells (((intCells l).take 0).toArray ++ Builtin.zeroCells (Value.int .i64 0).cells (l.length + 1 - 0) ++ Builtin.zeroCells (Value.int .i64 0).cells (grownCap w (l.length + 1) c 3 - (l.length + 1))) 3)).drew.setCells w.heap.size 0 [.int .i64 x]).drew).setCells w.heap.size (0 + 1) ((intCells l).drop 0))
    rw [← hcu]
    obtain ⟨cur1, k1, k2, k3⟩ := (Blk.new w 3 cu).drew.setCells [.int .i64 x] 0
    obtain ⟨cur2, m1, m2, m3⟩ := k1.drew.setCells ((intCells l).drop 0) (0 + 1)
    have hnw : ∀ k, (fun k => k = w.heap.size) k → w.heap.size ≤ k := fun k hk => by rw [hk]; exact Nat.le_refl _
    have hF : Fr (fun k => k = w.heap.size) (w.alloc (.cells cu 3)) ((((w.alloc (.cells cu 3)).drew.setCells w.heap.size 0 [.int .i64 x]).drew).setCells w.heap.size (0 + 1) ((intCells l).drop 0)) := Fr.setCells (O := fun k => k = w.heap.size) rfl _ _ (Fr.drew (Fr.setCells (O := fun k => k = w.heap.size) rfl _ _ (Fr.refl _ _).drew))
    have hBl := hF.below (B := w.heap.size) (by have := ((Below.refl _ w).alloc (Nat.le_refl _) (.cells cu 3)).size; omega) hnw
    refine ⟨_, rfl, ?_, Fr.of (((Below.refl _ _).alloc (Nat.le_refl _) _).trans hBl), fun k hk => .inr (by simp [Value.ownBlock] at hk; omega)⟩
    rw [List.length_cons]
    refine own_of_get m1 hB hge hcm (by omega) (by simp [intCells]) fun j u hu => ?_
    rw [hic] at hu
    have hju := (List.getElem?_eq_some_iff.1 hu).1
    simp only [List.length_cons, intCells_len] at hju
    rw [m3 j, k3 j, k2, hcz]
    simp only [List.length_cons, List.length_nil, List.drop_zero, intCells_len]
    cases j with
    | zero => rw [if_neg (by omega), if_pos (by omega)]; exact hu
    | succ j =>
      rw [if_pos (by omega), show j + 1 - (0 + 1) = j by omega]
      exact hu
theorem c_Del {w : World} {B g c n i : Nat} {l : List Int} (h : w.ownsRow B 3 1 (.slice (some ⟨g, 0, none⟩) n c) n (intCells l)) (hn : l.length = n) (hi : i < n) :
    Calls Tryz.prog 206 #[.slice (some ⟨g, 0, none⟩) n c, .int .i64 i, .int .i64 ((i : Int) + 1)] w fun e w' => e = .returned (.slice (some ⟨g, 0, none⟩) (n - 1) c) ∧ w'.ownsRow B 3 1 (.slice (some ⟨g, 0, none⟩) (n - 1) c) (n - 1) (intCells (l.take i ++ l.drop (i + 1))) ∧ Fr (fun k => k = g) w w' := by
  subst hn
  obtain ⟨cur, hb, hs, hg, hn, hc, hxl, hx⟩ := own_row1 h
  have hmx : c ≤ 9223372036854775807 := by unfold maxLen at hc; omega
  have hC := Any.slices_Delete_int_cells Tryz.laysNm223 g 0 l.length c i (i + 1) l w (Nat.le_refl _) hn hmx (by omega) (by omega) (fun j hj => by rw [Nat.zero_add, hb.cell]; exact hx j _ (intCells_get _ _ hj)) (fun j _ => hb.frozen _)
  refine hC.mono ?_
  rintro e w' ⟨rfl, q, rfl⟩
  rw [show l.length - (i + 1 - i) = l.length - 1 by omega]
  refine ⟨rfl, ?_, Fr.setCells (O := fun k => k = g) rfl _ _ (Fr.drewN (Fr.refl _ _) q)⟩
  obtain ⟨cur', k1, k2, k3⟩ := (hb.drewN q).setCells (((l.take l.length).take i ++ (l.take l.length).drop (i + 1) ++ List.replicate (i + 1 - i) 0).map (Value.int .i64)) 0
  refine own_of_get k1 hg (by omega) hc (by omega) (by simp [intCells]; omega) fun j u hu => ?_
  have hju := (List.getElem?_eq_some_iff.1 hu).1
  simp only [intCells_len, List.length_append, List.length_take, List.length_drop] at hju
  rw [k3 j, if_pos (by simp; omega), Nat.sub_zero, List.take_length, List.map_append, List.getElem?_append_left (by simp; omega)]
  exact hu
end Go.Proofs.YtakfdnnlhjhcfaaGreatDoor
