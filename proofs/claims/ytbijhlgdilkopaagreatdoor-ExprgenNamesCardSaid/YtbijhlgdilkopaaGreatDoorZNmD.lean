/- scope: Find, use, fresh, fault. -/
import Derived.Test.YtbijhlgdilkopaaGreatDoorZNmC
import Derived.Test.YtbijhlgdilkopaaGreatDoorEfX
set_option linter.unusedVariables false
set_option linter.unusedSimpArgs false
set_option maxRecDepth 100000
set_option maxHeartbeats 4000000
namespace Go.Proofs.YtbijhlgdilkopaaGreatDoor
open Go.RowKit Bk
/-- What Find answers. -/
def FindP (vs : List Vr) (name : ByteArray) (e : Ending) : Prop :=
  (∃ v ∈ vs, v.nm = name ∧ e = .returned (.tuple #[.agg #[.string v.nm, .int .u8 v.k, .int .i64 v.len], .bool true])) ∨ e = .returned (.tuple #[.agg #[.string ⟨#[]⟩, .int .u8 0, .int .i64 0], .bool false])
/-- An error, and what holds where it is none. -/
def ErrP (K : Prop) (e : Ending) : Prop := ∃ err : Int, e = .returned (.int .i64 err) ∧ (0 ≤ err ∧ err ≤ 100) ∧ (err = 0 → K)
theorem e_scFind {w : World} {B : Nat} (hBw : B ≤ w.heap.size) (V : Option Addr) (nv cv : Nat) (vs : List Vr) (hv : VsAt w B V vs) (hnv : nv ≤ vs.length) (hnv2 : nv ≤ 1000000) (name : ByteArray) (w' : World) (hb : Below B w w') :
    Calls Tryz.prog 35 #[.slice V nv cv, .string name] w' fun en w'' => FindP vs name en ∧ Below w'.heap.size w' w'' := by
  have HV := Lib.hid hv; have HNV := Lib.hid hnv; have HB := Lib.hid hb
  clear hv hnv hb
  go_enter Tryz.func35, Tryz.ntmps35
  go_upto_region 2 with fail
  refine wp_nameE ?_
  intro w1 hw
  have hb1 : Below w'.heap.size w' w1 := by rw [hw]; exact (by go_grown)
  have K1 : Blk w1 w'.heap.size 45 #[.string ⟨#[]⟩, .int .u8 0, .int .i64 0] := by rw [hw]; exact (by repeat' (first | assumption | exact Blk.new' (by simp) _ _ | apply Blk.alloc | apply Blk.drew))
  have HB1 := Lib.hid hb1; have HK1 := Lib.hid K1
  clear hw hb1 K1
  go_loopw [6] (fun v6 wr => ∃ j : Nat, j ≤ nv ∧ v6 = .int .i64 ((j : Int) - 1) ∧ Below w1.heap.size w1 wr) (fun v _ => (intOf v + 1).toNat)
  case atStart => exact ⟨nv, Nat.le_refl _, by first | rfl | go_num, Below.refl _ _⟩
  case round =>
    obtain ⟨j, hj, rfl, hbr⟩ := hrel
    have HBR := Lib.hid hbr
    have hBr := HB1.out.next hbr
    have K1 := HK1.out.next hbr
    have HK2 := Lib.hid K1
    clear hbr
    rcases Nat.eq_zero_or_pos j with hj0 | hj0
    · subst hj0
      obtain ⟨z_1, T_1, F_1⟩ := K1.open_
      clear K1
      go_wp2_with fail
      have K9 := ((HK2.out.set_ 0 (.string ⟨#[]⟩)).set_ 1 (.int .u8 0)).set_ 2 (.int .i64 0)
      refine bodyPost_ret_by (results_cell_rowE rfl _ _ w'.heap.size 45 #[.string ⟨#[]⟩, .int .u8 0, .int .i64 0] _ rfl (show Blk _ w'.heap.size 45 #[.string ⟨#[]⟩, .int .u8 0, .int .i64 0] by simpa using K9) Tryz.underlying45 rfl (by kernel_rfl)) rfl ?_
      exact ⟨.inr rfl, ((hBr.setCell (Nat.le_refl _) _).setCell (Nat.le_refl _) _).setCell (Nat.le_refl _) _⟩
    · obtain ⟨i, rfl⟩ : ∃ i, j = i + 1 := ⟨j - 1, by omega⟩
      have e1 : (((i + 1 : Nat) : Int) - 1) = (i : Int) := by omega
      rw [e1]
      obtain ⟨v, hvj⟩ : ∃ v, vs[i]? = some v := ⟨_, List.getElem?_eq_getElem (by have := HNV.out; omega)⟩
      obtain ⟨g, o, hA2, hgB, c0, c1, c2⟩ := (HV.out.next HB.out) i v hvj
      subst hA2
      have hgw : g < w'.heap.size := by have := HB.out.size; omega
      have d0 := (hBr.cell (p := ⟨g, o + i * 3, none⟩) hgw).trans c0
      have d1 := (hBr.cell (p := ⟨g, o + i * 3 + 1, none⟩) hgw).trans c1
      have d2 := (hBr.cell (p := ⟨g, o + i * 3 + 2, none⟩) hgw).trans c2
      have HVM := Lib.hid (List.mem_of_getElem? hvj)
      obtain ⟨nm, k, len⟩ := v
      dsimp only at d0 d1 d2
      have j0 : (0 : Int) ≤ (i : Int) := by omega
      have j1 : (i : Int) < (nv : Int) := by omega
      clear c0 c1 c2 hvj e1
      obtain ⟨q, hq⟩ : ∃ q, (nm.toList == name.toList) = q := ⟨_, rfl⟩
      have HQ := Lib.hid hq
      cases q
      · go_wp2_with fail
        exact ⟨⟨i, (by omega), by first | rfl | go_num, HBR.out⟩, (by simp [intOf]; try omega)⟩
      · obtain ⟨z_1, T_1, F_1⟩ := K1.open_
        clear K1
        go_wp2_with fail
        have K9 := ((HK2.out.set_ 0 (.string nm)).set_ 1 (.int .u8 k)).set_ 2 (.int .i64 len)
        refine bodyPost_ret_by (results_cell_rowE rfl _ _ w'.heap.size 45 #[.string nm, .int .u8 k, .int .i64 len] _ rfl (show Blk _ w'.heap.size 45 #[.string nm, .int .u8 k, .int .i64 len] by simpa using K9) Tryz.underlying45 rfl (by kernel_rfl)) rfl ?_
        exact ⟨.inl ⟨_, HVM.out, bytes_ext HQ.out, rfl⟩, ((hBr.setCell (Nat.le_refl _) _).setCell (Nat.le_refl _) _).setCell (Nat.le_refl _) _⟩
theorem e_fresh {w : World} {B : Nat} (hBw : B ≤ w.heap.size) (V : Option Addr) (nv cv : Nat) (vs : List Vr) (hv : VsAt w B V vs) (hnv : nv ≤ vs.length) (hnv2 : nv ≤ 1000000) (name : ByteArray) (w' : World) (hb : Below B w w') : Calls Tryz.prog 19 #[.slice V nv cv, .string name] w' fun en w'' => ErrP True en ∧ Below w'.heap.size w' w'' := by
  have HFD := Lib.hid (e_scFind hBw V nv cv vs hv hnv hnv2 name w' hb)
  clear hv hnv hb
  go_enter Tryz.func19, Tryz.ntmps19
  go_wp2_with fail
  refine HFD.out.mono ?_
  rintro en w1 ⟨hp, hb1⟩
  have HB1 := Lib.hid hb1
  clear hb1
  rcases hp with ⟨v, _, _, rfl⟩ | rfl
  · go_wp2_with fail
    go_ret
    exact ⟨⟨22, rfl, by omega, fun _ => trivial⟩, HB1.out.alloc (Nat.le_trans (Nat.le_refl _) HB1.out.size) _⟩
  · go_wp2_with fail
    go_ret
    exact ⟨⟨0, rfl, by omega, fun _ => trivial⟩, HB1.out.alloc (Nat.le_trans (Nat.le_refl _) HB1.out.size) _⟩
theorem e_use {w : World} {B : Nat} (hBw : B ≤ w.heap.size) (V : Option Addr) (nv cv : Nat) (vs : List Vr) (hv : VsAt w B V vs) (hnv : nv ≤ vs.length) (hnv2 : nv ≤ 1000000) (name : ByteArray) (kd : Int) (w' : World) (hb : Below B w w') : Calls Tryz.prog 64 #[.slice V nv cv, .string name, .int .u8 kd] w' fun en w'' => ErrP (∃ v ∈ vs, v.nm = name ∧ v.k = kd) en ∧ Below w'.heap.size w' w'' := by
  have HFD := Lib.hid (e_scFind hBw V nv cv vs hv hnv hnv2 name w' hb)
  clear hv hnv hb
  go_enter Tryz.func64, Tryz.ntmps64
  go_wp2_with fail
  refine HFD.out.mono ?_
  rintro en w1 ⟨hp, hb1⟩
  have HB1 := Lib.hid hb1
  clear hb1
  rcases hp with ⟨v, hm, hn, rfl⟩ | rfl
  · have HM := Lib.hid hm; have HN := Lib.hid hn
    obtain ⟨nm, k, len⟩ := v
    dsimp only at *
    clear hm hn
    by_cases hk : k = kd
    · subst hk
      go_wp2_with fail
      go_ret
      exact ⟨⟨0, rfl, by omega, fun _ => ⟨_, HM.out, HN.out, rfl⟩⟩, HB1.out.alloc (Nat.le_trans (Nat.le_refl _) HB1.out.size) _⟩
    · have hk' : (k != kd) = true := by simpa using hk
      go_wp2_with fail
      go_ret
      exact ⟨⟨7, rfl, by omega, fun h => by omega⟩, HB1.out.alloc (Nat.le_trans (Nat.le_refl _) HB1.out.size) _⟩
  · go_wp2_with fail
    go_ret
    exact ⟨⟨6, rfl, by omega, fun h => by omega⟩, HB1.out.alloc (Nat.le_trans (Nat.le_refl _) HB1.out.size) _⟩
/-- A node without a variable. -/
theorem e_faultO (V : Option Addr) (nv cv : Nat) (m x : Nd) (h1 : (x.k == 2) = false) (h2 : (x.k == 3) = false) (h3 : (x.k == 4) = false) (h4 : (x.k == 5) = false) (h5 : (x.k == 44) = false) (h6 : (x.k == 45) = false) (h7 : (x.k == 54) = false) (h8 : (x.k == 55) = false) (h9 : (x.k == 50) = false) (h10 : (x.k == 51) = false) (w : World) :
    Calls Tryz.prog 38 #[.agg #[.slice V nv cv, .slice none 0 0, .int .u8 m.k, .int .i64 m.num, .string m.nm, .slice m.A m.n m.cap], .agg #[.int .u8 x.k, .int .i64 x.num, .string x.nm, .slice x.A x.n x.cap], .slice V nv cv] w fun en w'' => en = .returned (.int .i64 0) ∧ Below w.heap.size w w'' := by
  obtain ⟨k, num, nm, A, n, cap⟩ := x
  dsimp only at *
  go_enter Tryz.func38, Tryz.ntmps38
  go_wp2_with fail
  go_ret
  exact ⟨rfl, by go_grown⟩
theorem e_faultE {w : World} {B : Nat} (hBw : B ≤ w.heap.size) (V : Option Addr) (nv cv : Nat) (vs : List Vr) (hv : VsAt w B V vs) (hnv : vs.length = nv) (hnv2 : nv ≤ 1000000) (m : Nd) (e : Ex) (x : Nd) (hx : EV w B nameB e x) (w' : World) (hb : Below B w w') :
    Calls Tryz.prog 38 #[.agg #[.slice V nv cv, .slice none 0 0, .int .u8 m.k, .int .i64 m.num, .string m.nm, .slice m.A m.n m.cap], .agg #[.int .u8 x.k, .int .i64 x.num, .string x.nm, .slice x.A x.n x.cap], .slice V nv cv] w' fun en w'' => ErrP (e.vk ≠ 0 → ∃ v ∈ vs, v.nm = e.nam ∧ v.k = e.vk) en ∧ Below w'.heap.size w' w'' := by
  have hkind := hx.kind
  have hother : e.vk = 0 → x.k = 1 ∨ (6 ≤ x.k ∧ x.k ≤ 23) := fun h => by
    cases e with
    | num v => exact .inl hx.1
    | var s => simp [Ex.vk] at h
    | top s => simp [Ex.vk] at h
    | size s => simp [Ex.vk] at h
    | item s a => simp [Ex.vk] at h
    | un op a => have h1 := hx.1; have h2 := hx.2.1; omega
    | bin op a b => have h1 := hx.1; have h2 := hx.2.1; omega
  have HU : Hid (∀ kd W, Below B w W → Calls Tryz.prog 64 #[.slice V nv cv, .string x.nm, .int .u8 kd] W fun en w'' => ErrP (∃ v ∈ vs, v.nm = x.nm ∧ v.k = kd) en ∧ Below W.heap.size W w'') := Lib.hid fun kd W hW => e_use hBw V nv cv vs hv (by omega) hnv2 x.nm kd W hW
  have HB := Lib.hid hb
  have hBw' : B ≤ w'.heap.size := by have := hb.size; omega
  have HO := Lib.hid hother; have HKN := Lib.hid hkind
  clear hx hv hnv hb hother hkind
  by_cases hz : e.vk = 0
  · have ho := HO.out hz
    have h := e_faultO V nv cv m x (by simp; omega) (by simp; omega) (by simp; omega) (by simp; omega) (by simp; omega) (by simp; omega) (by simp; omega) (by simp; omega) (by simp; omega) (by simp; omega) w'
    exact h.mono fun en w'' ⟨h1, h2⟩ => ⟨⟨0, h1, by omega, fun _ h => absurd hz h⟩, h2⟩
  have HZ := Lib.hid hz
  clear hz HO
  obtain ⟨k, num, nm, A, n, cap⟩ := x
  dsimp only at *
  rcases HKN.out with ⟨rfl, hkd, hnm⟩ | ⟨rfl, hkd, hnm⟩ | ⟨rfl, hkd, hnm⟩ | ⟨rfl, hkd, hnm⟩ | ⟨_, _, _, _, hkd⟩
  rotate_right 1
  · exact absurd hkd HZ.out
  all_goals
    have HKD := Lib.hid hkd; have HNM := Lib.hid hnm
    clear hkd hnm
    go_enter Tryz.func38, Tryz.ntmps38
    go_wp2_with fail
    refine (HU.out _ _ (HB.out.trans ((Below.refl _ _).alloc (by omega) _ |>.alloc (by simp; omega) _))).mono ?_
    rintro en w1 ⟨⟨err, rfl, her, hk⟩, hb1⟩
    have HK := Lib.hid hk
    have HB1 : Hid (Below w'.heap.size w' w1) := Lib.hid (Below.next ((Below.refl _ _).alloc (Nat.le_refl _) _ |>.alloc (by simp) _) hb1)
    clear hb1 hk
    go_wp2_with fail
    go_ret
    exact ⟨⟨err, rfl, her, fun h0 _ => by rw [HKD.out, ← HNM.out]; exact HK.out h0⟩, HB1.out⟩
end Go.Proofs.YtbijhlgdilkopaaGreatDoor
