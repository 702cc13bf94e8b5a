/- WhH WhI. -/
import Derived.Test.YtakfdnnlhjhcfaaGreatDoorM8
set_option linter.unusedVariables false
set_option linter.unusedSimpArgs false
set_option linter.unusedSimpArgs false
set_option maxRecDepth 100000
set_option maxHeartbeats 4000000
namespace Bk
open Go Go.RowKit
def callE (ps : List Pc) (s : ByteArray) (n : Nat) : Int := match (procX s ps).bind fun i => ps[i]? with
  | none => 6
  | some p => if n ≠ p.nv then 7 else 0
def faultX (vs : List Vr) (ps : List Pc) (x : Nd) : Int :=
  if x.k = 2 then useE vs x.nm 1
  else if x.k = 3 then useE vs x.nm 2
  else if x.k = 4 ∨ x.k = 5 ∨ x.k = 44 ∨ x.k = 45 then useE vs x.nm 3
  else if x.k = 54 ∨ x.k = 55 then (if (findV x.nm vs).isSome then 22 else 0)
  else if x.k = 50 ∨ x.k = 51 then callE ps x.nm x.n
  else 0
theorem procX_lt {s : ByteArray} : ∀ {l : List Pc} {i : Nat}, procX s l = some i → i < l.length
  | [], _, h => by simp [procX] at h
  | v :: l, i, h => by
    simp only [procX] at h
    by_cases hn : (v.nm.toList == s.toList) = true
    · rw [if_pos hn] at h; simp at h; subst h; simp
    · rw [if_neg hn] at h
      cases h2 : procX s l with
      | none => rw [h2] at h; simp at h
      | some j => rw [h2] at h; simp at h; subst h; have := procX_lt h2; simp; omega
end Bk
namespace Go.Proofs.YtakfdnnlhjhcfaaGreatDoor
open Go.RowKit Bk
theorem e_faultU {w : World} {B d : Nat} (hBw : B ≤ w.heap.size) (V : Option Addr) (nv cv : Nat) (Q : Option Addr) (nq cq : Nat) (ps : List Pc) (hq : PrsAt w B d Q ps) (hnq : ps.length = nq) (hnq2 : nq ≤ 17592186043904) (m : Nd) {w0 : World} {B0 : Nat} (hB0 : B0 ≤ w0.heap.size) (A : Option Addr) (na ca : Nat) (vs : List Vr) (hv : VsAt w0 B0 A vs) (hna : vs.length = na) (hna2 : na ≤ 17592186043904) (x : Nd) (hx0 : x.n ≤ 17592186043904) (hk : x.k = 2 ∨ x.k = 3 ∨ x.k = 4 ∨ x.k = 5 ∨ x.k = 44 ∨ x.k = 45 ∨ x.k = 54 ∨ x.k = 55) (w' : World) (hb : Below B w w') (hb0 : Below B0 w0 w') :
    Calls Tryz.prog 58 #[.agg #[.slice V nv cv, .slice Q nq cq, .int .u8 m.k, .int .i64 m.num, .string m.nm, .slice m.A m.n m.cap], .agg #[.int .u8 x.k, .int .i64 x.num, .string x.nm, .slice x.A x.n x.cap], .slice A na ca] w' fun en w'' => en = .returned (.int .i64 (faultX vs ps x)) ∧ Below w'.heap.size w' w'' := by
  have HU : Hid (∀ kd W, Below B0 w0 W → Calls Tryz.prog 94 #[.slice A na ca, .string x.nm, .int .u8 kd] W fun en w'' => en = .returned (.int .i64 (useE vs x.nm kd)) ∧ Below W.heap.size W w'') := Lib.hid fun kd W hW => e_use hB0 A na ca vs hv hna hna2 x.nm kd W hW
  have HF : Hid (∀ W, Below B0 w0 W → Calls Tryz.prog 31 #[.slice A na ca, .string x.nm] W fun en w'' => en = .returned (.int .i64 (if (findV x.nm vs).isSome then 22 else 0)) ∧ Below W.heap.size W w'') := Lib.hid fun W hW => e_fresh hB0 A na ca vs hv hna hna2 x.nm W hW
  have HB := Lib.hid hb0
  have hBw' : B0 ≤ w'.heap.size := by have := hb0.size; omega
  obtain ⟨r, hr⟩ : ∃ r, faultX vs ps x = r := ⟨_, rfl⟩
  have HR := Lib.hid hr
  rw [hr]
  clear hq hnq hnq2 hv hna hna2 hb hb0 hr hx0
  obtain ⟨mk, mnum, mnm, mA, mn, mcap⟩ := m
  obtain ⟨k, num, nm, XA, n, cap⟩ := x
  dsimp only at *
  rcases hk with rfl | rfl | rfl | rfl | rfl | rfl | rfl | rfl
  all_goals
    go_enter Tryz.func58, Tryz.ntmps58
    go_wp2_with fail
    first
      | refine (HU.out _ _ (HB.out.trans ((Below.refl _ _).alloc (by omega) _ |>.alloc (by simp; omega) _))).mono ?_
      | refine (HF.out _ (HB.out.trans ((Below.refl _ _).alloc (by omega) _ |>.alloc (by simp; omega) _))).mono ?_
    rintro en w1 ⟨he, hb1⟩
    have HB1 : Hid (Below w'.heap.size w' w1) := Lib.hid (Below.next ((Below.refl _ _).alloc (Nat.le_refl _) _ |>.alloc (by simp) _) hb1)
    have he2 : en = .returned (.int .i64 r) := by rw [he, ← HR.out]; simp [faultX]
    subst he2
    clear hb1 he
    go_wp2_with fail
    go_ret
    exact ⟨rfl, HB1.out⟩
theorem e_faultN {w : World} {B d : Nat} (hBw : B ≤ w.heap.size) (V : Option Addr) (nv cv : Nat) (Q : Option Addr) (nq cq : Nat) (ps : List Pc) (hq : PrsAt w B d Q ps) (hnq : ps.length = nq) (hnq2 : nq ≤ 17592186043904) (m : Nd) {w0 : World} {B0 : Nat} (hB0 : B0 ≤ w0.heap.size) (A : Option Addr) (na ca : Nat) (vs : List Vr) (hv : VsAt w0 B0 A vs) (hna : vs.length = na) (hna2 : na ≤ 17592186043904) (x : Nd) (hx0 : x.n ≤ 17592186043904) (hk : ¬ (x.k = 2 ∨ x.k = 3 ∨ x.k = 4 ∨ x.k = 5 ∨ x.k = 44 ∨ x.k = 45 ∨ x.k = 54 ∨ x.k = 55)) (hk2 : ¬ (x.k = 50 ∨ x.k = 51)) (w' : World) :
    Calls Tryz.prog 58 #[.agg #[.slice V nv cv, .slice Q nq cq, .int .u8 m.k, .int .i64 m.num, .string m.nm, .slice m.A m.n m.cap], .agg #[.int .u8 x.k, .int .i64 x.num, .string x.nm, .slice x.A x.n x.cap], .slice A na ca] w' fun en w'' => en = .returned (.int .i64 (faultX vs ps x)) ∧ Below w'.heap.size w' w'' := by
  have h0 : faultX vs ps x = 0 := by
    unfold faultX
    rw [if_neg (by omega), if_neg (by omega), if_neg (by omega), if_neg (by omega), if_neg (by omega)]
  rw [h0]
  have h1 : (x.k == 2) = false := by simp; omega
  have h2 : (x.k == 3) = false := by simp; omega
  have h3 : (x.k == 4) = false := by simp; omega
  have h4 : (x.k == 5) = false := by simp; omega
  have h5 : (x.k == 44) = false := by simp; omega
  have h6 : (x.k == 45) = false := by simp; omega
  have h7 : (x.k == 54) = false := by simp; omega
  have h8 : (x.k == 55) = false := by simp; omega
  have h9 : (x.k == 50) = false := by simp; omega
  have h10 : (x.k == 51) = false := by simp; omega
  clear hq hnq hnq2 hv hna hna2 hx0 h0 hk hk2
  obtain ⟨mk, mnum, mnm, mA, mn, mcap⟩ := m
  obtain ⟨k, num, nm, XA, n, cap⟩ := x
  dsimp only at *
  go_enter Tryz.func58, Tryz.ntmps58
  go_wp2_with fail
  go_ret
  exact ⟨rfl, by go_grown⟩
theorem callE_cases (ps : List Pc) (s : ByteArray) (n : Nat) : (procI s ps = -1 ∧ callE ps s n = 6) ∨ ∃ (i : Nat) (p : Pc), ps[i]? = some p ∧ procI s ps = (i : Int) ∧ callE ps s n = if n ≠ p.nv then 7 else 0 := by
  unfold procI callE
  cases h : procX s ps with
  | none => exact .inl ⟨rfl, rfl⟩
  | some i =>
    have hi := procX_lt h
    exact .inr ⟨i, ps[i], List.getElem?_eq_getElem hi, rfl, by simp [List.getElem?_eq_getElem hi]⟩
theorem e_faultC {w : World} {B d : Nat} (hBw : B ≤ w.heap.size) (V : Option Addr) (nv cv : Nat) (Q : Option Addr) (nq cq : Nat) (ps : List Pc) (hq : PrsAt w B d Q ps) (hnq : ps.length = nq) (hnq2 : nq ≤ 17592186043904) (m : Nd) {w0 : World} {B0 : Nat} (hB0 : B0 ≤ w0.heap.size) (A : Option Addr) (na ca : Nat) (vs : List Vr) (hv : VsAt w0 B0 A vs) (hna : vs.length = na) (hna2 : na ≤ 17592186043904) (x : Nd) (hx0 : x.n ≤ 17592186043904) (hk : x.k = 50 ∨ x.k = 51) (w' : World) (hb : Below B w w') :
    Calls Tryz.prog 58 #[.agg #[.slice V nv cv, .slice Q nq cq, .int .u8 m.k, .int .i64 m.num, .string m.nm, .slice m.A m.n m.cap], .agg #[.int .u8 x.k, .int .i64 x.num, .string x.nm, .slice x.A x.n x.cap], .slice A na ca] w' fun en w'' => en = .returned (.int .i64 (faultX vs ps x)) ∧ Below w'.heap.size w' w'' := by
  have HP : Hid (∀ W, Below B w W → Calls Tryz.prog 32 #[.agg #[.slice V nv cv, .slice Q nq cq, .int .u8 m.k, .int .i64 m.num, .string m.nm, .slice m.A m.n m.cap], .string x.nm] W fun en w'' => en = .returned (.int .i64 (procI x.nm ps)) ∧ Below W.heap.size W w'') := Lib.hid fun W hW => e_Proc hBw V nv cv Q nq cq ps hq hnq hnq2 m x.nm W hW
  have HB := Lib.hid hb; have HQ := Lib.hid hq; have HNQ := Lib.hid hnq
  have hBw' : B ≤ w'.heap.size := by have := hb.size; omega
  have h0 : faultX vs ps x = callE ps x.nm x.n := by
    unfold faultX
    rw [if_neg (by omega), if_neg (by omega), if_neg (by omega), if_neg (by omega), if_pos hk]
  rw [h0]
  have HC := Lib.hid (callE_cases ps x.nm x.n)
  obtain ⟨r, hr⟩ : ∃ r, callE ps x.nm x.n = r := ⟨_, rfl⟩
  obtain ⟨ri, hri⟩ : ∃ ri, procI x.nm ps = ri := ⟨_, rfl⟩
  rw [hr] at HC ⊢
  rw [hri] at HP HC
  clear hq hnq hv hna hna2 hb hr h0 hri
  obtain ⟨mk, mnum, mnm, mA, mn, mcap⟩ := m
  obtain ⟨k, num, nm, XA, n, cap⟩ := x
  dsimp only at *
  rcases hk with rfl | rfl
  · go_enter Tryz.func58, Tryz.ntmps58
    go_upto_region 1 with fail
    refine wp_nameE ?_
    intro w1 hw1
    have hb1 : Below w'.heap.size w' w1 := by rw [hw1]; exact (by go_grown)
    have K1 : Blk w1 w'.heap.size 28 #[.slice V nv cv, .slice Q nq cq, .int .u8 mk, .int .i64 mnum, .string mnm, .slice mA mn mcap] := by rw [hw1]; exact (by repeat' (first | assumption | exact Blk.new' (by simp) _ _ | apply Blk.alloc | apply Blk.drew))
    have K2 : Blk w1 (w'.heap.size + 1) 26 #[.int .u8 50, .int .i64 num, .string nm, .slice XA n cap] := by rw [hw1]; exact (by repeat' (first | assumption | exact Blk.new' (by simp) _ _ | apply Blk.alloc | apply Blk.drew))
    have HB1 := Lib.hid hb1
    have HK1 := Lib.hid K1; have HK2 := Lib.hid K2
    clear hw1 hb1
    obtain ⟨z_1, T_1, F_1⟩ := K1.open_
    obtain ⟨z_2, T_2, F_2⟩ := K2.open_
    clear K1 K2
    go_wp2_with fail
    refine (HP.out w1 (HB.out.trans (HB1.out.mono hBw'))).mono ?_
    rintro en w2 ⟨rfl, hb2⟩
    have HB2 := Lib.hid (HB1.out.next hb2)
    have K1 := HK1.out.next hb2; have K2 := HK2.out.next hb2
    clear T_1 z_1 F_1 T_2 z_2 F_2 hb2 HK1 HK2
    obtain ⟨z_1, T_1, F_1⟩ := K1.open_
    obtain ⟨z_2, T_2, F_2⟩ := K2.open_
    clear K1 K2
    rcases HC.out with ⟨h1, h2⟩ | ⟨i, p, hp, h1, h2⟩
    · subst h1; subst h2
      go_wp2_with fail
      go_ret
      exact ⟨rfl, HB2.out⟩
    · obtain ⟨⟨g, o, hA2, hgB, _, c1, _⟩, _, _, _, hnv1, _⟩ := HQ.out i p hp
      subst hA2
      have hil : i < nq := by have := (List.getElem?_eq_some_iff.1 hp).1; have := HNQ.out; omega
      have d1 := ((HB.out.trans (HB2.out.mono hBw')).cell (p := ⟨g, o + i * 6 + 1, none⟩) hgB).trans c1
      obtain ⟨pn, pV, pnv, pcv, pvs, pb⟩ := p
      dsimp only at *
      have j0 : (0 : Int) ≤ (i : Int) := by omega
      have j1 : (i : Int) < (nq : Int) := by omega
      subst h1
      have HR := Lib.hid h2
      clear h2 c1 hp
      by_cases hn : n = pnv
      · have e1 : ((n : Int) != (pnv : Int)) = false := by simp; omega
        obtain rfl : r = 0 := by rw [HR.out]; simp [hn]
        go_wp2_with fail
        go_region
        go_wp2_with fail
        go_ret
        exact ⟨rfl, HB2.out.trans (by go_grown)⟩
      · have e1 : ((n : Int) != (pnv : Int)) = true := by simp; omega
        obtain rfl : r = 7 := by rw [HR.out, if_pos hn]
        go_wp2_with fail
        go_region
        go_wp2_with fail
        go_ret
        exact ⟨rfl, HB2.out.trans (by go_grown)⟩
  · go_enter Tryz.func58, Tryz.ntmps58
    go_upto_region 1 with fail
    refine wp_nameE ?_
    intro w1 hw1
    have hb1 : Below w'.heap.size w' w1 := by rw [hw1]; exact (by go_grown)
    have K1 : Blk w1 w'.heap.size 28 #[.slice V nv cv, .slice Q nq cq, .int .u8 mk, .int .i64 mnum, .string mnm, .slice mA mn mcap] := by rw [hw1]; exact (by repeat' (first | assumption | exact Blk.new' (by simp) _ _ | apply Blk.alloc | apply Blk.drew))
    have K2 : Blk w1 (w'.heap.size + 1) 26 #[.int .u8 51, .int .i64 num, .string nm, .slice XA n cap] := by rw [hw1]; exact (by repeat' (first | assumption | exact Blk.new' (by simp) _ _ | apply Blk.alloc | apply Blk.drew))
    have HB1 := Lib.hid hb1
    have HK1 := Lib.hid K1; have HK2 := Lib.hid K2
    clear hw1 hb1
    obtain ⟨z_1, T_1, F_1⟩ := K1.open_
    obtain ⟨z_2, T_2, F_2⟩ := K2.open_
    clear K1 K2
    go_wp2_with fail
    refine (HP.out w1 (HB.out.trans (HB1.out.mono hBw'))).mono ?_
    rintro en w2 ⟨rfl, hb2⟩
    have HB2 := Lib.hid (HB1.out.next hb2)
    have K1 := HK1.out.next hb2; have K2 := HK2.out.next hb2
    clear T_1 z_1 F_1 T_2 z_2 F_2 hb2 HK1 HK2
    obtain ⟨z_1, T_1, F_1⟩ := K1.open_
    obtain ⟨z_2, T_2, F_2⟩ := K2.open_
    clear K1 K2
    rcases HC.out with ⟨h1, h2⟩ | ⟨i, p, hp, h1, h2⟩
    · subst h1; subst h2
      go_wp2_with fail
      go_ret
      exact ⟨rfl, HB2.out⟩
    · obtain ⟨⟨g, o, hA2, hgB, _, c1, _⟩, _, _, _, hnv1, _⟩ := HQ.out i p hp
      subst hA2
      have hil : i < nq := by have := (List.getElem?_eq_some_iff.1 hp).1; have := HNQ.out; omega
      have d1 := ((HB.out.trans (HB2.out.mono hBw')).cell (p := ⟨g, o + i * 6 + 1, none⟩) hgB).trans c1
      obtain ⟨pn, pV, pnv, pcv, pvs, pb⟩ := p
      dsimp only at *
      have j0 : (0 : Int) ≤ (i : Int) := by omega
      have j1 : (i : Int) < (nq : Int) := by omega
      subst h1
      have HR := Lib.hid h2
      clear h2 c1 hp
      by_cases hn : n = pnv
      · have e1 : ((n : Int) != (pnv : Int)) = false := by simp; omega
        obtain rfl : r = 0 := by rw [HR.out]; simp [hn]
        go_wp2_with fail
        go_region
        go_wp2_with fail
        go_ret
        exact ⟨rfl, HB2.out.trans (by go_grown)⟩
      · have e1 : ((n : Int) != (pnv : Int)) = true := by simp; omega
        obtain rfl : r = 7 := by rw [HR.out, if_pos hn]
        go_wp2_with fail
        go_region
        go_wp2_with fail
        go_ret
        exact ⟨rfl, HB2.out.trans (by go_grown)⟩
theorem e_faultX {w : World} {B d : Nat} (hBw : B ≤ w.heap.size) (V : Option Addr) (nv cv : Nat) (Q : Option Addr) (nq cq : Nat) (ps : List Pc) (hq : PrsAt w B d Q ps) (hnq : ps.length = nq) (hnq2 : nq ≤ 17592186043904) (m : Nd) {w0 : World} {B0 : Nat} (hB0 : B0 ≤ w0.heap.size) (A : Option Addr) (na ca : Nat) (vs : List Vr) (hv : VsAt w0 B0 A vs) (hna : vs.length = na) (hna2 : na ≤ 17592186043904) (x : Nd) (hx0 : x.n ≤ 17592186043904) (w' : World) (hb : Below B w w') (hb0 : Below B0 w0 w') :
    Calls Tryz.prog 58 #[.agg #[.slice V nv cv, .slice Q nq cq, .int .u8 m.k, .int .i64 m.num, .string m.nm, .slice m.A m.n m.cap], .agg #[.int .u8 x.k, .int .i64 x.num, .string x.nm, .slice x.A x.n x.cap], .slice A na ca] w' fun en w'' => en = .returned (.int .i64 (faultX vs ps x)) ∧ Below w'.heap.size w' w'' := by
  by_cases h1 : x.k = 2 ∨ x.k = 3 ∨ x.k = 4 ∨ x.k = 5 ∨ x.k = 44 ∨ x.k = 45 ∨ x.k = 54 ∨ x.k = 55
  · exact e_faultU hBw V nv cv Q nq cq ps hq hnq hnq2 m hB0 A na ca vs hv hna hna2 x hx0 h1 w' hb hb0
  by_cases h2 : x.k = 50 ∨ x.k = 51
  · exact e_faultC hBw V nv cv Q nq cq ps hq hnq hnq2 m hB0 A na ca vs hv hna hna2 x hx0 h2 w' hb
  · exact e_faultN hBw V nv cv Q nq cq ps hq hnq hnq2 m hB0 A na ca vs hv hna hna2 x hx0 h1 h2 w'
end Go.Proofs.YtakfdnnlhjhcfaaGreatDoor
set_option maxHeartbeats 17592186043904
namespace Bk
open Go Go.RowKit
def argV (ps : List Pc) (s : ByteArray) (n i : Nat) (v : Vr) : Int := match (procX s ps).bind fun i => ps[i]? with
  | none => 0
  | some p => if n ≠ p.nv then 0 else match p.vs[i]? with
    | none => 0
    | some q => if v.k ≠ q.k ∨ v.len ≠ q.len then 7 else 0
def argX (vs : List Vr) (ps : List Pc) (s : ByteArray) (n i : Nat) (a : ByteArray) : Int := match (findV a vs).bind fun i => vs[i]? with
  | none => 6
  | some v => argV ps s n i v
theorem argX_cases {vs : List Vr} {ps : List Pc} {s : ByteArray} {n i : Nat} {a : ByteArray} {e : Ending} (h : Go.Proofs.YtakfdnnlhjhcfaaGreatDoor.FindX vs a e) : (∃ v : Vr, argX vs ps s n i a = argV ps s n i v ∧ e = .returned (.tuple #[.agg #[.string v.nm, .int .u8 v.k, .int .i64 v.len], .bool true])) ∨ (argX vs ps s n i a = 6 ∧ e = .returned (.tuple #[.agg #[.string ⟨#[]⟩, .int .u8 0, .int .i64 0], .bool false])) := by
  unfold Go.Proofs.YtakfdnnlhjhcfaaGreatDoor.FindX at h
  unfold argX
  cases hf : (findV a vs).bind fun i => vs[i]? with
  | none => rw [hf] at h; exact .inr ⟨rfl, h⟩
  | some v => rw [hf] at h; exact .inl ⟨v, rfl, h⟩
theorem argV_cases (ps : List Pc) (s : ByteArray) (n i : Nat) (v : Vr) : (procI s ps = -1 ∧ argV ps s n i v = 0) ∨ ∃ (j : Nat) (p : Pc), ps[j]? = some p ∧ procI s ps = (j : Int) ∧ argV ps s n i v = (if n ≠ p.nv then 0 else match p.vs[i]? with
    | none => 0
    | some q => if v.k ≠ q.k ∨ v.len ≠ q.len then 7 else 0) := by
  unfold procI argV
  cases h : procX s ps with
  | none => exact .inl ⟨rfl, rfl⟩
  | some j =>
    have hi := procX_lt h
    exact .inr ⟨j, ps[j], List.getElem?_eq_getElem hi, rfl, by simp [List.getElem?_eq_getElem hi]⟩
end Bk
namespace Go.Proofs.YtakfdnnlhjhcfaaGreatDoor
open Go.RowKit Bk
theorem e_argX {w : World} {B d : Nat} (hBw : B ≤ w.heap.size) (V : Option Addr) (nv cv : Nat) (Q : Option Addr) (nq cq : Nat) (ps : List Pc) (hq : PrsAt w B d Q ps) (hnq : ps.length = nq) (hnq2 : nq ≤ 17592186043904) (m : Nd) {w0 : World} {B0 : Nat} (hB0 : B0 ≤ w0.heap.size) (A : Option Addr) (na ca : Nat) (vs : List Vr) (hv : VsAt w0 B0 A vs) (hna : vs.length = na) (hna2 : na ≤ 17592186043904) (x y : Nd) (hx0 : x.n ≤ 17592186043904) (i : Nat) (hi : i < x.n) (hky : Kid w B x i y) (w' : World) (hb : Below B w w') (hb0 : Below B0 w0 w') :
    Calls Tryz.prog 60 #[.agg #[.slice V nv cv, .slice Q nq cq, .int .u8 m.k, .int .i64 m.num, .string m.nm, .slice m.A m.n m.cap], .agg #[.int .u8 x.k, .int .i64 x.num, .string x.nm, .slice x.A x.n x.cap], .int .i64 i, .slice A na ca] w' fun en w'' => en = .returned (.int .i64 (argX vs ps x.nm x.n i y.nm)) ∧ Below w'.heap.size w' w'' := by
  have HF : Hid (∀ W, Below B0 w0 W → Calls Tryz.prog 55 #[.slice A na ca, .string y.nm] W fun en w'' => FindX vs y.nm en ∧ Below W.heap.size W w'') := Lib.hid fun W hW => e_scFind hB0 A na ca vs hv hna hna2 y.nm W hW
  have HP : Hid (∀ W, Below B w W → Calls Tryz.prog 32 #[.agg #[.slice V nv cv, .slice Q nq cq, .int .u8 m.k, .int .i64 m.num, .string m.nm, .slice m.A m.n m.cap], .string x.nm] W fun en w'' => en = .returned (.int .i64 (procI x.nm ps)) ∧ Below W.heap.size W w'') := Lib.hid fun W hW => e_Proc hBw V nv cv Q nq cq ps hq hnq hnq2 m x.nm W hW
  have HB := Lib.hid hb; have HB0 := Lib.hid hb0; have HQ := Lib.hid hq; have HNQ := Lib.hid hnq
  have hBw' : B ≤ w'.heap.size := by have := hb.size; omega
  have hBw0 : B0 ≤ w'.heap.size := by have := hb0.size; omega
  have HC : Hid (∀ e, FindX vs y.nm e → _) := Lib.hid fun e he => argX_cases (ps := ps) (s := x.nm) (n := x.n) (i := i) he
  obtain ⟨r, hr⟩ : ∃ r, argX vs ps x.nm x.n i y.nm = r := ⟨_, rfl⟩
  rw [hr] at HC ⊢
  have HD := Lib.hid (fun v => argV_cases ps x.nm x.n i v)
  obtain ⟨ri, hri⟩ : ∃ ri, procI x.nm ps = ri := ⟨_, rfl⟩
  rw [hri] at HP HD
  have hXX := hb
  have HKY := Lib.hid hky
  clear hq hnq hv hna hna2 hb hb0 hr hri hky
  obtain ⟨mk, mnum, mnm, mA, mn, mcap⟩ := m
  obtain ⟨k, num, nm, XA, n, cap⟩ := x
  dsimp only at *
  go_enter Tryz.func60, Tryz.ntmps60
  go_upto_region 1 with fail
  refine wp_nameE ?_
  intro w1 hw1
  have hb1 : Below w'.heap.size w' w1 := by rw [hw1]; exact (by go_grown)
  have K1 : Blk w1 w'.heap.size 28 #[.slice V nv cv, .slice Q nq cq, .int .u8 mk, .int .i64 mnum, .string mnm, .slice mA mn mcap] := by rw [hw1]; exact (by repeat' (first | assumption | exact Blk.new' (by simp) _ _ | apply Blk.alloc | apply Blk.drew))
  have K2 : Blk w1 (w'.heap.size + 1) 26 #[.int .u8 k, .int .i64 num, .string nm, .slice XA n cap] := by rw [hw1]; exact (by repeat' (first | assumption | exact Blk.new' (by simp) _ _ | apply Blk.alloc | apply Blk.drew))
  obtain ⟨g, o, hA2, hgB, c0, c1, c2, c3⟩ := HKY.out.cells (HB.out.trans (hb1.mono (by omega)))
  dsimp only at hA2
  subst hA2
  have HB1 := Lib.hid hb1; have HK1 := Lib.hid K1; have HK2 := Lib.hid K2
  have j0 : (0 : Int) ≤ (i : Int) := by omega
  have j1 : (i : Int) < (n : Int) := by omega
  clear hw1 hb1 c0 c1 c3 hXX
  obtain ⟨z_2, T_2, F_2⟩ := K2.open_
  clear K1 K2
  go_wp2_with fail
  refine (HF.out w1 (HB0.out.trans (HB1.out.mono hBw0))).mono ?_
  rintro en w2 ⟨hf, hb2⟩
  have HB2 := Lib.hid (HB1.out.next hb2)
  have K1 := HK1.out.next hb2; have K2 := HK2.out.next hb2
  clear T_2 z_2 F_2 hb2 HK1 HK2 c2
  rcases HC.out en hf with ⟨v, h1, rfl⟩ | ⟨rfl, rfl⟩
  rotate_left
  · clear hf
    go_wp2_with fail
    go_ret
    exact ⟨rfl, by have := HB2.out.size; exact HB2.out.trans (by go_grown)⟩
  clear hf
  have HD1 := Lib.hid (HD.out v)
  rw [← h1] at HD1
  obtain ⟨vn, vk, vl⟩ := v
  dsimp only at *
  clear h1 HC HD
  have HK1 := Lib.hid K1; have HK2 := Lib.hid K2
  clear K1 K2
  go_upto_region 2 with fail
  refine wp_nameE ?_
  intro w3 hw3
  have hs2 := HB2.out.size
  have hb3 : Below w2.heap.size w2 w3 := by rw [hw3]; exact (by go_grown)
  have K3 : Blk w3 w2.heap.size 72 #[.string vn, .int .u8 vk, .int .i64 vl] := by rw [hw3]; exact (by repeat' (first | assumption | exact Blk.new' (by simp) _ _ | apply Blk.alloc | apply Blk.drew))
  have K1 := HK1.out.next hb3; have K2 := HK2.out.next hb3
  have HB3 := Lib.hid (HB2.out.next hb3)
  have HK1 := Lib.hid K1; have HK2 := Lib.hid K2; have HK3 := Lib.hid K3
  clear hw3 hb3 K3
  obtain ⟨z_1, T_1, F_1⟩ := K1.open_
  obtain ⟨z_2, T_2, F_2⟩ := K2.open_
  clear K1 K2
  go_wp2_with fail
  refine (HP.out w3 (HB.out.trans (HB3.out.mono hBw'))).mono ?_
  rintro en w4 ⟨rfl, hb4⟩
  have HB4 := Lib.hid (HB3.out.next hb4)
  have K1 := HK1.out.next hb4; have K2 := HK2.out.next hb4; have K3 := HK3.out.next hb4
  clear T_1 z_1 F_1 T_2 z_2 F_2 hb4 HK1 HK2 HK3
  have HK1 := Lib.hid K1
  have hs4 := HB4.out.size
  have hl3 := K3.lt
  have HK3 := Lib.hid K3
  clear K3
  obtain ⟨z_1, T_1, F_1⟩ := K1.open_
  obtain ⟨z_2, T_2, F_2⟩ := K2.open_
  clear K1 K2
  rcases HD1.out with ⟨h1, h2⟩ | ⟨j, p, hp, h1, h2⟩
  · subst h1; subst h2
    go_wp2_with fail
    go_region
    go_wp2_with fail
    go_ret
    exact ⟨rfl, HB4.out.trans (by go_grown)⟩
  · obtain ⟨⟨pg, po, hA2, hgB2, _, c1, _⟩, hvs, hvl, _, hnv1, _⟩ := HQ.out j p hp
    subst hA2
    have hjl : j < nq := by have := (List.getElem?_eq_some_iff.1 hp).1; have := HNQ.out; omega
    have hX4 := HB.out.trans (HB4.out.mono hBw')
    have d1 := (hX4.cell (p := ⟨pg, po + j * 6 + 1, none⟩) hgB2).trans c1
    have HX4 := Lib.hid hX4
    obtain ⟨pn, pV, pnv, pcv, pvs, pb⟩ := p
    dsimp only at *
    have j2 : (0 : Int) ≤ (j : Int) := by omega
    have j3 : (j : Int) < (nq : Int) := by omega
    subst h1
    have HR := Lib.hid h2; have HVS := Lib.hid hvs; have HVL := Lib.hid hvl
    clear h2 c1 hp hX4 hvs hvl HD1 HQ HP HF HKY
    by_cases hn : n = pnv
    · have e1 : ((n : Int) != (pnv : Int)) = false := by simp; omega
      obtain ⟨q, hq⟩ : ∃ q, pvs[i]? = some q := ⟨_, List.getElem?_eq_getElem (by have := HVL.out; omega)⟩
      obtain ⟨qg, qo, hA3, hqB, e_0, e_1, e_2⟩ := HVS.out i q hq
      subst hA3
      have HR2 : Hid (r = if vk ≠ q.k ∨ vl ≠ q.len then 7 else 0) := Lib.hid (by rw [HR.out, if_neg (by simpa using hn), hq])
      have f0 := (HX4.out.cell (p := ⟨qg, qo + i * 3, none⟩) hqB).trans e_0
      have f1 := (HX4.out.cell (p := ⟨qg, qo + i * 3 + 1, none⟩) hqB).trans e_1
      have f2 := (HX4.out.cell (p := ⟨qg, qo + i * 3 + 2, none⟩) hqB).trans e_2
      obtain ⟨qn, qk, ql⟩ := q
      dsimp only at *
      clear e_0 e_1 e_2 hq HR HVS HVL HX4
      have j4 : (i : Int) < (pnv : Int) := by omega
      have HF0 := Lib.hid f0; have HF1 := Lib.hid f1; have HF2 := Lib.hid f2; have HJ4 := Lib.hid j4
      have HQB := Lib.hid hqB; have HD1 := Lib.hid d1
      have hpgB := hgB2
      clear f0 f1 f2 j4 hn hqB
      go_wp2_with fail
      go_quiet (fail)
      go_upto_region 7 with fail
      refine wp_nameE ?_
      intro w5 hw5
      have hb5 : Below w4.heap.size w4 w5 := by rw [hw5]; exact Bk.drewN_ (Below.refl _ _) _
      have HB5 := Lib.hid (HB4.out.next hb5)
      have HBX := Lib.hid hb5
      have hBw4 : B ≤ w4.heap.size := Nat.le_trans hBw' hs4
      have K1 := HK1.out.next hb5; have K3 := HK3.out.next hb5
      have f0 := (hb5.cell (p := ⟨qg, qo + i * 3, none⟩) (Nat.lt_of_lt_of_le HQB.out hBw4)).trans HF0.out
      have f1 := (hb5.cell (p := ⟨qg, qo + i * 3 + 1, none⟩) (Nat.lt_of_lt_of_le HQB.out hBw4)).trans HF1.out
      have f2 := (hb5.cell (p := ⟨qg, qo + i * 3 + 2, none⟩) (Nat.lt_of_lt_of_le HQB.out hBw4)).trans HF2.out
      have d1 := (hb5.cell (p := ⟨pg, po + j * 6 + 1, none⟩) (Nat.lt_of_lt_of_le hpgB hBw4)).trans HD1.out
      have j4 := HJ4.out
      have hs5 := HB5.out.size
      have hl3 := K3.lt
      clear hw5 hb5 T_1 z_1 F_1 T_2 z_2 F_2
      obtain ⟨z_1, T_1, F_1⟩ := K1.open_
      obtain ⟨z_3, T_3, F_3⟩ := K3.open_
      clear K1 K3
      obtain ⟨s1, hs1⟩ : ∃ s, (vk != qk) = s := ⟨_, rfl⟩
      obtain ⟨s2, hs2'⟩ : ∃ s, (vl != ql) = s := ⟨_, rfl⟩
      have HS : Hid (r = if (s1 || s2) = true then 7 else 0) := Lib.hid (by rw [HR2.out, ← hs1, ← hs2']; simp)
      have hK3 := Lib.hid (HK3.out.next HBX.out)
      go_upto_region 8 with fail
      refine wp_nameE ?_
      intro w6 hw6
      have hb6 : Below w5.heap.size w5 w6 := by rw [hw6]; exact (by go_grown)
      have K4 : Blk w6 w5.heap.size 72 #[.string qn, .int .u8 qk, .int .i64 ql] := by rw [hw6]; exact (by repeat' (first | assumption | exact Blk.new' (by simp) _ _ | apply Blk.alloc | apply Blk.drew))
      have K3 := hK3.out.next hb6
      have HB6 := Lib.hid (HB5.out.next hb6)
      have hl4 := K4.lt; have hl5 := K3.lt
      clear hw6 hb6 T_1 z_1 F_1 T_3 z_3 F_3 f0 f1 f2 d1
      obtain ⟨z_3, T_3, F_3⟩ := K3.open_
      obtain ⟨z_4, T_4, F_4⟩ := K4.open_
      clear K3 K4
      cases s1 <;> cases s2
      · obtain rfl : r = 0 := by rw [HS.out]; rfl
        go_wp2_with fail
        try (go_quiet (fail))
        try (go_wp2_with fail)
        go_ret
        exact ⟨rfl, HB6.out⟩
      all_goals
        obtain rfl : r = 7 := by rw [HS.out]; rfl
        go_wp2_with fail
        try (go_quiet (fail))
        try (go_wp2_with fail)
        go_ret
        exact ⟨rfl, HB6.out⟩
    · have e1 : ((n : Int) != (pnv : Int)) = true := by simp; omega
      obtain rfl : r = 0 := by rw [HR.out, if_pos hn]
      go_wp2_with fail
      go_quiet (fail)
      go_wp2_with fail
      go_ret
      exact ⟨rfl, Bk.drewN_ HB4.out _⟩
end Go.Proofs.YtakfdnnlhjhcfaaGreatDoor
