/- ast.limited: by what it does at the kids. -/
import Derived.Test.YtbijhlgdilkopaaGreatDoorEsX
import Derived.BigRegion
set_option linter.unusedVariables false
set_option linter.unusedSimpArgs false
set_option maxRecDepth 100000
set_option maxHeartbeats 4000000
namespace Go.Proofs.YtbijhlgdilkopaaGreatDoor
open Go.RowKit Bk
/-- limited at a node: what it answers and leaves, by the depth and the number of nodes that are left. -/
def LimOk (w : World) (B : Nat) (y : Nd) (R : Nat → Nat → Bool → Nat → Prop) : Prop :=
  ∀ dp lf : Nat, dp ≤ 1000 → lf ≤ 1000000 → ∀ (w' : World) (bl : Nat), Below B w w' → B ≤ bl → Blk w' bl 3 #[.int .i64 (lf : Int)] →
    Calls Tryz.prog 33 #[.agg #[.int .u8 y.k, .int .i64 y.num, .string y.nm, .slice y.A y.n y.cap], .int .i64 (dp : Int), .pointer (some ⟨bl, 0, none⟩)] w' fun en w'' => ∃ (b : Bool) (lf' : Nat), en = .returned (.bool b) ∧ lf' ≤ lf ∧ R dp lf b lf' ∧ Blk w'' bl 3 #[.int .i64 (lf' : Int)] ∧ Fr (fun k => k = bl) w' w''
theorem e_limN {w : World} {B : Nat} (hBw : B ≤ w.heap.size) (x : Nd) (hn : x.n ≤ 9223372036854775807) {R : Nat → Nat → Bool → Nat → Prop} {Rk : Nat → Nat → Nat → Bool → Nat → Prop} {I : Nat → Nat → Nat → Nat → Prop}
    (hkid : ∀ i, i < x.n → ∃ y, Kid w B x i y ∧ LimOk w B y (Rk i))
    (hz : ∀ dp lf, dp = 0 ∨ lf = 0 → R dp lf false lf)
    (h0 : ∀ dp lf, I (dp + 1) (lf + 1) 0 lf)
    (hs : ∀ dp lf j c c', j < x.n → I (dp + 1) lf j c → Rk j dp c true c' → I (dp + 1) lf (j + 1) c')
    (hf : ∀ dp lf j c c', j < x.n → I (dp + 1) lf j c → Rk j dp c false c' → R (dp + 1) lf false c')
    (ht : ∀ dp lf c, I (dp + 1) lf x.n c → R (dp + 1) lf true c) : LimOk w B x R := by
  intro dp lf hdp hlf w' bl hb hbl hk
  obtain ⟨k, num, nm, A, n, cap⟩ := x
  have HB := Lib.hid hb; have HK := Lib.hid hk; have HKID := Lib.hid hkid
  have HZ := Lib.hid hz; have H0 := Lib.hid h0; have HS := Lib.hid hs; have HF := Lib.hid hf; have HTT := Lib.hid ht
  have hbw := hk.lt
  have hBw' : B ≤ w'.heap.size := by have := hb.size; omega
  dsimp only at *
  clear hb hkid hz h0 hs hf ht
  obtain ⟨z_k, T_k, F_k⟩ := hk.open_
  clear hk
  by_cases hd0 : dp = 0
  · subst hd0
    go_enter Tryz.func33, Tryz.ntmps33
    go_wp2_with fail
    go_ret
    exact ⟨false, lf, rfl, Nat.le_refl _, HZ.out 0 lf (.inl rfl), HK.out.next (by go_grown), Fr.of (by go_grown)⟩
  have hd1 : ((dp : Int) == 0) = false := by simpa using hd0
  by_cases hl0 : lf = 0
  · subst hl0
    go_enter Tryz.func33, Tryz.ntmps33
    go_wp2_with fail
    go_ret
    exact ⟨false, 0, rfl, Nat.le_refl _, HZ.out dp 0 (.inr rfl), HK.out.next (by go_grown), Fr.of (by go_grown)⟩
  have hl1 : ((lf : Int) == 0) = false := by simpa using hl0
  obtain ⟨d1, rfl⟩ : ∃ d1, dp = d1 + 1 := ⟨dp - 1, by omega⟩
  obtain ⟨l1, rfl⟩ : ∃ l1, lf = l1 + 1 := ⟨lf - 1, by omega⟩
  have hw1 : IntKind.i64.wrap (((l1 + 1 : Nat) : Int) - 1) = (l1 : Int) := by rw [wrap_small _ (by omega) (by omega)]; omega
  have hw2 : IntKind.i64.wrap (((d1 + 1 : Nat) : Int) - 1) = (d1 : Int) := by rw [wrap_small _ (by omega) (by omega)]; omega
  obtain ⟨di, hdi⟩ : ∃ di : Int, ((d1 + 1 : Nat) : Int) = di := ⟨_, rfl⟩
  obtain ⟨li, hli⟩ : ∃ li : Int, ((l1 + 1 : Nat) : Int) = li := ⟨_, rfl⟩
  rw [hdi] at hd1 hw2 ⊢
  rw [hli] at hl1 hw1 T_k HK
  clear hdi hli
  go_enter Tryz.func33, Tryz.ntmps33
  go_upto_region 4 with fail
  refine wp_nameE ?_
  intro w1 hw
  have K1 : Blk w1 w'.heap.size 24 #[.int .u8 k, .int .i64 num, .string nm, .slice A n cap] := by rw [hw]; exact (by repeat' (first | assumption | exact Blk.new' (by simp) _ _ | apply Blk.alloc | apply Blk.drew))
  have KL : Blk w1 bl 3 #[.int .i64 (l1 : Int)] := by rw [hw]; exact Blk.next (show Blk (w'.setCell ⟨bl, 0, none⟩ (.int .i64 (l1 : Int))) bl 3 #[.int .i64 (l1 : Int)] by simpa using HK.out.set_ 0 (.int .i64 (l1 : Int))) ((Below.refl _ _).alloc (Nat.le_refl _) _)
  have hF1 : Fr (fun k => k = bl) w' w1 := by rw [hw]; exact (Fr.set (O := fun k => k = bl) (Fr.refl _ _) (show bl = bl from rfl) _).alloc _
  have HKL := Lib.hid KL; have HF1 := Lib.hid hF1
  have hz1 : w'.heap.size < w1.heap.size := K1.lt
  clear T_k z_k F_k hw KL hF1 hd0 hl0 hd1 hl1 HK
  obtain ⟨z_1, T_1, F_1⟩ := K1.open_
  clear K1
  go_wp2_with fail
  clear T_1 z_1 F_1
  go_loopw [25] (fun v25 wr => ∃ (j c : Nat), j ≤ n ∧ v25 = .int .i64 j ∧ c ≤ l1 ∧ I (d1 + 1) (l1 + 1) j c ∧ Blk wr bl 3 #[.int .i64 (c : Int)] ∧ Fr (fun k => k = bl) w' wr) (fun v _ => n - (intOf v).toNat)
  case atStart => exact ⟨0, l1, Nat.zero_le _, rfl, Nat.le_refl _, H0.out d1 l1, HKL.out, HF1.out⟩
  case round =>
    obtain ⟨j, c, hj, rfl, hc, hI, hkl, hfr⟩ := hrel
    have HI := Lib.hid hI; have HKR := Lib.hid hkl; have HFR := Lib.hid hfr
    have hBr : Below B w wr := HB.out.trans (hfr.below hBw' (fun k hk => hk ▸ hbl))
    have HBR := Lib.hid hBr
    have hzr := hfr.size
    clear hI hkl hfr hBr
    by_cases hjn : j < n
    · obtain ⟨y, hky, hoy⟩ := HKID.out j hjn
      obtain ⟨g, o, hA2, hgB, c0, c1, c2, c3⟩ := hky.cells HBR.out
      simp only at hA2
      subst hA2
      have HOY := Lib.hid hoy
      have j0 : (0 : Int) ≤ (j : Int) := by omega
      have j1 : (j : Int) < (n : Int) := by omega
      clear hky hoy
      go_upto_region 7 with fail
      refine wp_nameE ?_
      intro w2 hw
      have hb2 : Below wr.heap.size wr w2 := by rw [hw]; exact (by go_grown)
      have K2 : Blk w2 wr.heap.size 24 #[.int .u8 y.k, .int .i64 y.num, .string y.nm, .slice y.A y.n y.cap] := by rw [hw]; exact (by repeat' (first | assumption | exact Blk.new' (by simp) _ _ | apply Blk.alloc | apply Blk.drew))
      have HB2 := Lib.hid hb2
      clear hw c0 c1 c2 c3 hb2
      obtain ⟨z_2, T_2, F_2⟩ := K2.open_
      clear K2
      go_wp2_with fail
      refine (HOY.out d1 c (by omega) (by omega) w2 bl (HBR.out.trans (HB2.out.mono (by omega))) hbl (HKR.out.next HB2.out)).mono ?_
      rintro en w3 ⟨b, c', rfl, hc', hR, hkl, hfr⟩
      have HR := Lib.hid hR; have HK3 := Lib.hid hkl
      have HF3 := Lib.hid ((HFR.out.next HB2.out).trans hfr)
      clear T_2 z_2 F_2 hR hkl hfr
      cases b with
      | false =>
        go_wp2_with fail
        go_ret
        exact ⟨false, c', rfl, by omega, HF.out d1 (l1 + 1) j c c' hjn HI.out HR.out, HK3.out, HF3.out⟩
      | true =>
        go_wp2_with fail
        exact ⟨⟨j + 1, c', by omega, by go_num, by omega, HS.out d1 (l1 + 1) j c c' hjn HI.out HR.out, HK3.out, HF3.out⟩, by simp [intOf]; omega⟩
    · obtain rfl : j = n := by omega
      go_wp2_with fail
      go_ret
      exact ⟨true, c, rfl, by omega, HTT.out d1 (l1 + 1) c HI.out, HKR.out, HFR.out⟩
/-- At any node: some answer. -/
theorem e_limK {w : World} {B : Nat} (hBw : B ≤ w.heap.size) : ∀ (d : Nat) (x : Nd), KV w B d x → LimOk w B x (fun _ _ _ _ => True)
  | 0, _, h => h.elim
  | d + 1, x, h => by
    obtain ⟨_, _, hcap, hmax, _, hk⟩ := h
    exact e_limN hBw x (by unfold maxLen at hmax; omega) (Rk := fun _ _ _ _ _ => True) (I := fun _ _ _ _ => True) (fun i hi => let ⟨y, h1, h2⟩ := hk i hi; ⟨y, h1, e_limK hBw d y h2⟩) (fun _ _ _ => trivial) (fun _ _ => trivial) (fun _ _ _ _ _ _ _ _ => trivial) (fun _ _ _ _ _ _ _ _ => trivial) (fun _ _ _ _ => trivial)
/-- The exact answer where enough nodes are left: by the number of nodes s and the depth d. -/
def Lx (s d : Nat) : Nat → Nat → Bool → Nat → Prop := fun dp lf b lf' => s ≤ lf → (b = true ↔ d ≤ dp) ∧ (b = true → lf' + s = lf)
def sumTo (s : Nat → Nat) : Nat → Nat
  | 0 => 0
  | n + 1 => sumTo s n + s n
def maxTo (d : Nat → Nat) : Nat → Nat
  | 0 => 0
  | n + 1 => max (maxTo d n) (d n)
theorem sumTo_le {s : Nat → Nat} {j n : Nat} (h : j ≤ n) : sumTo s j ≤ sumTo s n := by
  induction h with
  | refl => exact Nat.le_refl _
  | step _ ih => exact Nat.le_trans ih (by simp [sumTo])
theorem maxTo_le {d : Nat → Nat} {j n : Nat} (h : j ≤ n) : maxTo d j ≤ maxTo d n := by
  induction h with
  | refl => exact Nat.le_refl _
  | step _ ih => exact Nat.le_trans ih (by simp only [maxTo]; omega)
theorem e_limX {w : World} {B : Nat} (hBw : B ≤ w.heap.size) (x : Nd) (hn : x.n ≤ 9223372036854775807) (s d : Nat → Nat) (hd : ∀ i, i < x.n → 1 ≤ d i) (hkid : ∀ i, i < x.n → ∃ y, Kid w B x i y ∧ LimOk w B y (Lx (s i) (d i))) :
    LimOk w B x (Lx (sumTo s x.n + 1) (maxTo d x.n + 1)) := by
  refine e_limN hBw x hn (Rk := fun i => Lx (s i) (d i)) (I := fun dp lf j c => sumTo s x.n + 1 ≤ lf → c + sumTo s j + 1 = lf ∧ maxTo d j + 1 ≤ dp) hkid ?_ ?_ ?_ ?_ ?_
  · intro dp lf h hs
    refine ⟨⟨(fun h => by cases h), fun h2 => ?_⟩, (fun h => by cases h)⟩
    rcases h with h | h <;> omega
  · intro dp lf hs
    simp [sumTo, maxTo]
  · intro dp lf j c c' hj hI hR hs
    obtain ⟨h1, h2⟩ := hI hs
    have hle := sumTo_le (s := s) (show j + 1 ≤ x.n from hj)
    simp only [sumTo] at hle
    obtain ⟨h3, h4⟩ := hR (by omega)
    have h5 := h3.1 rfl
    have h6 := h4 rfl
    simp only [sumTo, maxTo]
    omega
  · intro dp lf j c c' hj hI hR hs
    obtain ⟨h1, h2⟩ := hI hs
    have hle := sumTo_le (s := s) (show j + 1 ≤ x.n from hj)
    simp only [sumTo] at hle
    obtain ⟨h3, h4⟩ := hR (by omega)
    have hm := maxTo_le (d := d) (show j + 1 ≤ x.n from hj)
    simp only [maxTo] at hm
    have h5 : ¬ d j ≤ dp := fun h => by have := h3.2 h; cases this
    exact ⟨⟨(fun h => by cases h), (fun h => by omega)⟩, (fun h => by cases h)⟩
  · intro dp lf c hI hs
    obtain ⟨h1, h2⟩ := hI hs
    exact ⟨⟨fun _ => by omega, fun _ => rfl⟩, fun _ => by omega⟩
theorem sumTo_one {f : Nat → Nat} : sumTo f 1 = f 0 := by simp [sumTo]
theorem sumTo_two {f : Nat → Nat} : sumTo f 2 = f 0 + f 1 := by simp [sumTo]
/-- At an expression. -/
theorem e_limE {w : World} {B : Nat} (hBw : B ≤ w.heap.size) : ∀ (e : Ex) (x : Nd), EV w B nameB e x → LimOk w B x (Lx e.sz e.dp) := by
  refine Ex.ind fun e ih x hx => ?_
  obtain ⟨hn, hkid⟩ := hx.kids
  have h2 := e.kids_le
  have h := e_limX hBw x (by omega) (fun i => ((e.kids[i]?).map Ex.sz).getD 0) (fun i => ((e.kids[i]?).map Ex.dp).getD 1) (fun i hi => by
      rw [List.getElem?_eq_getElem (by omega)]
      simp only [Option.map_some, Option.getD_some]
      have := Ex.dp_eq (e.kids[i]'(by omega)); omega) (fun i hi => by
      have he := List.getElem?_eq_getElem (l := e.kids) (i := i) (by omega)
      obtain ⟨y, h1, h2⟩ := hkid i _ he
      exact ⟨y, h1, by rw [he]; exact ih _ (List.getElem_mem _) y h2⟩)
  have e1 : sumTo (fun i => ((e.kids[i]?).map Ex.sz).getD 0) x.n + 1 = e.sz := by
    rw [hn]; cases e <;> simp [Ex.kids, Ex.sz, sumTo] <;> omega
  have e2 : maxTo (fun i => ((e.kids[i]?).map Ex.dp).getD 1) x.n + 1 = e.dp := by
    rw [hn]; cases e <;> simp [Ex.kids, Ex.dp, maxTo]
  rw [e1, e2] at h
  exact h
end Go.Proofs.YtbijhlgdilkopaaGreatDoor
