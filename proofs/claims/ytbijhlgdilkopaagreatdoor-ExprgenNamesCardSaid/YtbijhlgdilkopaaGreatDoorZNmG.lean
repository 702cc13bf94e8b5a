/- scope.visit. Printed by gen_names.py. -/
import Derived.Test.YtbijhlgdilkopaaGreatDoorZNmF
set_option linter.unusedVariables false
set_option linter.unusedSimpArgs false
set_option maxRecDepth 100000
set_option maxHeartbeats 4000000
namespace Go.Proofs.YtbijhlgdilkopaaGreatDoor
open Go.RowKit Bk
theorem wpAnyH_atN {P : Program} {md : Region.Mode} {ops : Array Oper} {Q : Exit → Act → World → Prop} {S : World → Prop} {fuel : Nat} {listed : Array Bool} {a : Act} {w : World} (h : ∀ w', w' = w → wpAnyH P md ops Q S fuel listed a w') : wpAnyH P md ops Q S fuel listed a w := h w rfl
theorem RepAt.next {w w' : World} {bf b4 b1 base : Nat} {pc : Array Value} (h : RepAt w bf b4 b1 base pc) (hb : Below w.heap.size w w') : RepAt w' bf b4 b1 base pc :=
  ⟨h.f.next hb, h.p.next hb, by obtain ⟨a, b, c, d, e, f⟩ := h.h; exact ⟨a, b, c, d, e, Nat.le_trans f hb.size⟩⟩
theorem RepAt.emt {w w' : World} {bf b4 b1 base n : Nat} {pc : Array Value} {q q' : Value} (h : RepAt w bf b4 b1 base pc) (hq : Flt w bf base q n) (he : Emt bf w w' q q') : RepAt w' bf b4 b1 base pc := by
  obtain ⟨h1, h2, h3, h4, h5, h6⟩ := h.h
  obtain ⟨xs, ho, _⟩ := hq.own
  exact ⟨he.1.blk h.f (by rintro (e | e); exact h4 e; have := (own_gE ho e).1; omega), he.1.blk h.p (by rintro (e | e); exact h5 e; have := (own_gE ho e).1; omega), h1, h2, h3, h4, h5, Nat.le_trans h6 he.1.size⟩
/-- A report by way of Check's last closure. -/
theorem e_rep3 {w : World} {bf b4 b1 base : Nat} {V : Option Addr} {nv cv : Nat} {m : Nd} {q : Value} {n : Nat} (hr : RepAt w bf b4 b1 base #[.slice V nv cv, .slice none 0 0, .int .u8 m.k, .int .i64 m.num, .string m.nm, .slice m.A m.n m.cap]) (hf : Flt w bf base q n) (hn : n ≤ 100000) (err : Int) (nm : ByteArray) {v : Value} {l : List Int} (hl : l.length ≤ 1000000) (hs : Sl w (fun k => k < w.heap.size) 1 v l.length (intCells l)) :
    Calls Tryz.prog 23 #[v, .string nm, .int .i64 err, .pointer (some ⟨b4, 0, none⟩), .pointer (some ⟨b1, 0, none⟩)] w fun en w' => en = .returned (.tuple #[]) ∧ RepP w w' bf base q n err := by
  have HR := Lib.hid (e_report hf hr.h.1 hr.h.2.2.2.2.2 hn 0 err nm hl hs)
  obtain ⟨z_4, T_4, F_4⟩ := hr.f.open_
  obtain ⟨z_1, T_1, F_1⟩ := hr.p.open_
  clear hr hf hs
  obtain ⟨mk, mnum, mnm, mA, mn, mcap⟩ := m
  dsimp only at *
  go_enter Tryz.func23, Tryz.ntmps23
  go_wp2_with fail
  refine HR.out.mono ?_
  rintro en w1 ⟨rfl, hp⟩
  have HP := Lib.hid hp
  clear hp T_4 z_4 F_4 T_1 z_1 F_1
  go_wp2_with fail
  refine bodyPost_end (results_none rfl _ _ _) rfl ?_
  exact ⟨rfl, HP.out⟩
theorem e_inner (x : Nd) (h1 : (x.k == 54) = false) (h2 : (x.k == 55) = false) (i : Int) (V : Option Addr) (nv cv : Nat) (w : World) :
    Calls Tryz.prog 41 #[.agg #[.int .u8 x.k, .int .i64 x.num, .string x.nm, .slice x.A x.n x.cap], .int .i64 i, .slice V nv cv] w fun en w' => en = .returned (.slice V nv cv) ∧ Below w.heap.size w w' := by
  obtain ⟨k, num, nm, A, n, cap⟩ := x
  dsimp only at *
  go_enter Tryz.func41, Tryz.ntmps41
  go_wp2_with fail
  go_ret
  exact ⟨rfl, by go_grown⟩
/-- What visiting a node does: at most c more faults, none of them only if K. -/
def VisOk (w : World) (B : Nat) (V : Option Addr) (nv cv : Nat) (m : Nd) (x : Nd) (dp c : Nat) (K : Prop) : Prop :=
  ∀ (w' : World) (bf b4 b1 base : Nat) (q : Value) (n : Nat) (pv : Value) (l : List Int), Below B w w' → B ≤ bf → B ≤ base → RepAt w' bf b4 b1 base #[.slice V nv cv, .slice none 0 0, .int .u8 m.k, .int .i64 m.num, .string m.nm, .slice m.A m.n m.cap] → Flt w' bf base q n → n + c ≤ 10000 → Sl w' (Dn bf q w') 1 pv l.length (intCells l) → l.length + dp ≤ 1000 →
    Calls Tryz.prog 21 #[.agg #[.slice V nv cv, .slice none 0 0, .int .u8 m.k, .int .i64 m.num, .string m.nm, .slice m.A m.n m.cap], .agg #[.int .u8 x.k, .int .i64 x.num, .string x.nm, .slice x.A x.n x.cap], pv, .slice V nv cv, .func (.func 23) #[] #[.pointer (some ⟨b4, 0, none⟩), .pointer (some ⟨b1, 0, none⟩)]] w' fun en w'' => en = .returned (.tuple #[]) ∧ ∃ q' n', Flt w'' bf base q' n' ∧ (n ≤ n' ∧ n' ≤ n + c) ∧ (n' = n → K) ∧ Emt bf w' w'' q q'
theorem e_visitN {w : World} {B : Nat} (hBw : B ≤ w.heap.size) {V : Option Addr} {nv cv : Nat} {m : Nd} (x : Nd) (dp : Nat) {K0 : Prop}
    (k54 : (x.k == 54) = false) (k55 : (x.k == 55) = false) (k50 : (x.k == 50) = false) (k51 : (x.k == 51) = false)
    (hfa : ∀ W, Below B w W → Calls Tryz.prog 38 #[.agg #[.slice V nv cv, .slice none 0 0, .int .u8 m.k, .int .i64 m.num, .string m.nm, .slice m.A m.n m.cap], .agg #[.int .u8 x.k, .int .i64 x.num, .string x.nm, .slice x.A x.n x.cap], .slice V nv cv] W fun en w'' => ErrP K0 en ∧ Below W.heap.size W w'')
    (hxn : x.n ≤ 1000) (c : Nat → Nat) (Kq : Nat → Prop) (hkid : ∀ i, i < x.n → ∃ y, Kid w B x i y ∧ VisOk w B V nv cv m y dp (c i) (Kq i)) :
    VisOk w B V nv cv m x (dp + 1) (1 + sumTo c x.n) (K0 ∧ ∀ i, i < x.n → Kq i) := by
  intro w' bf b4 b1 base q n pv l hb hBbf hBba hrep hfl hnc hpa hpl
  have HB := Lib.hid hb; have HKID := Lib.hid hkid; have HFA := Lib.hid hfa
  have hBw' : B ≤ w'.heap.size := by have := hb.size; omega
  have hl : l.length ≤ 1000000 := by omega
  obtain ⟨h1, h2, h3, h4, h5, h6⟩ := hrep.h
  have hbfl := hfl.blk.lt
  have HQ0 : Hid (∀ k, q.ownBlock = some k → base ≤ k ∧ k < w'.heap.size) := Lib.hid fun k hk => by obtain ⟨xs, ho, _⟩ := hfl.own; exact own_gE ho hk
  have HR := Lib.hid hrep; have HFL := Lib.hid hfl; have HP := Lib.hid hpa
  obtain ⟨k, num, nm, A, xn, cap⟩ := x
  obtain ⟨mk, mnum, mnm, mA, mn, mcap⟩ := m
  dsimp only at *
  clear hb hkid hfa hrep hfl hpa
  go_enter Tryz.func21, Tryz.ntmps21
  go_upto_region 1 with fail
  refine wp_nameE ?_
  intro w1 hw1
  have hb1 : Below w'.heap.size w' w1 := by rw [hw1]; exact (by go_grown)
  have K5 : Blk w1 w'.heap.size 31 #[.slice V nv cv, .slice none 0 0, .int .u8 mk, .int .i64 mnum, .string mnm, .slice mA mn mcap] := by rw [hw1]; exact (by repeat' (first | assumption | exact Blk.new' (by simp) _ _ | apply Blk.alloc | apply Blk.drew))
  have K6 : Blk w1 (w'.heap.size + 1) 24 #[.int .u8 k, .int .i64 num, .string nm, .slice A xn cap] := by rw [hw1]; exact Blk.new' (by simp) _ _
  have HK5 := Lib.hid K5; have HK6 := Lib.hid K6; have HB1 := Lib.hid hb1
  have hz1 : w'.heap.size + 1 < w1.heap.size := K6.lt
  have HW1 := Lib.hid (HB.out.trans (hb1.mono hBw'))
  have HR1 := Lib.hid (HR.out.next hb1); have HFL1 := Lib.hid (HFL.out.next hb1); have HP1 := Lib.hid (Dn.next HP.out hb1)
  clear hw1 hb1 K5 K6
  have hno5 : ∀ kk, kk = w'.heap.size ∨ kk = w'.heap.size + 1 → ¬ (kk = bf ∨ q.ownBlock = some kk) := fun kk hk ho => by
    rcases ho with ho | ho
    · omega
    · have := HQ0.out _ ho; omega
  have HNO := Lib.hid hno5
  clear hno5
  refine wp_region_held_drew (S := fun W => Fr (fun kk => kk = bf ∨ q.ownBlock = some kk) w1 W) (by kernel_rfl) ((Fr.refl _ _).drew) (fun hH => ?_)
  refine wpAnyH_atN ?_
  intro wa hwa
  have hX : Below w1.heap.size w1 wa := by rw [hwa]; exact (Below.refl _ _).drew
  replace hH : Fr (fun kk => kk = bf ∨ q.ownBlock = some kk) w1 wa := Fr.of hX
  clear hwa
  refine wpAnyH_take (i := 0) (v := ?_) rfl (by kernel_rfl) (by kernel_rfl) (by kernel_rfl) (fun _ _ _ h => h) (Or.inl ⟨by rfl, ?hy⟩) hH ?_
  case hy => (intro w9_ hS9; clear hS9; go_simp; try with_reducible rfl)
  (try simp only [Bk.PU, Act.put])
  refine wpAnyH_take (i := 1) (v := ?_) rfl (by kernel_rfl) (by kernel_rfl) (by kernel_rfl) (fun _ _ _ h => h) (Or.inl ⟨by rfl, ?hy⟩) hH ?_
  case hy => (intro w9_ hS9; clear hS9; go_simp; try with_reducible rfl)
  (try simp only [Bk.PU, Act.put])
  refine wpAnyH_take (i := 2) (v := ?_) rfl (by kernel_rfl) (by kernel_rfl) (by kernel_rfl) (fun _ _ _ h => h) (Or.inl ⟨by rfl, ?hy⟩) hH ?_
  case hy => (intro w9_ hS9; clear hS9; go_simp; try with_reducible rfl)
  (try simp only [Bk.PU, Act.put])
  refine wpAnyH_take (i := 3) (v := ?_) rfl (by kernel_rfl) (by kernel_rfl) (by kernel_rfl) (fun _ _ _ h => h) (Or.inl ⟨by rfl, ?hy⟩) hH ?_
  case hy => (intro w9_ hS9; have t := (hS9.blk HK6.out (HNO.out _ (.inr rfl))).cell; clear hS9; go_simp; try with_reducible rfl)
  (try simp only [Bk.PU, Act.put])
  refine wpAnyH_take (i := 4) (v := ?_) rfl (by kernel_rfl) (by kernel_rfl) (by kernel_rfl) (fun _ _ _ h => h) (Or.inl ⟨by rfl, ?hy⟩) hH ?_
  case hy => (intro w9_ hS9; have t := (hS9.blk HK5.out (HNO.out _ (.inl rfl))).cell; clear hS9; go_simp; try with_reducible rfl)
  (try simp only [Bk.PU, Act.put])
  refine wpAnyH_take (i := 5) (v := ?_) rfl (by kernel_rfl) (by kernel_rfl) (by kernel_rfl) (fun _ _ _ h => h) (Or.inl ⟨by rfl, ?hy⟩) hH ?_
  case hy => (intro w9_ hS9; have t := (hS9.blk HK6.out (HNO.out _ (.inr rfl))).cell; clear hS9; go_simp; try with_reducible rfl)
  (try simp only [Bk.PU, Act.put])
  refine wpAnyH_take (i := 6) (v := ?_) rfl (by kernel_rfl) (by kernel_rfl) (by kernel_rfl) (fun _ _ _ h => h) (Or.inl ⟨by rfl, ?hy⟩) hH ?_
  case hy => (intro w9_ hS9; clear hS9; go_simp; try with_reducible rfl)
  (try simp only [Bk.PU, Act.put])
  refine wpAnyH_ready (rs := [7]) (by kernel_rfl) (by simp) ?_
  refine AllReadyH.cons rfl (fun K hK => ?_) (AllReadyH.nil)
  go_simp
  refine (HFA.out _ (HW1.out.trans (hX.mono (by omega)))).mono ?_
  rintro en wb ⟨⟨err, rfl, her, hke⟩, hbn⟩
  replace hX := hX.next hbn
  have HKE := Lib.hid hke
  clear hke hbn
  refine hK.out _ _ (Fr.of hX) (fun hH => ?_)
  clear hK
  (try simp only [Bk.PU, Act.put])
  refine wpAnyH_ready (rs := [8]) (by kernel_rfl) (by simp) ?_
  refine AllReadyH.cons rfl (fun K hK => ?_) (AllReadyH.nil)
  go_simp
  refine (e_rep3 (m := ⟨mk, mnum, mnm, mA, mn, mcap⟩) (HR1.out.next hX) (HFL1.out.next hX) (by omega) err nm hl (Sl.keep HP1.out (D' := fun k => k < wb.heap.size) (fun b o hd => hX.cell (p := ⟨b, o, none⟩) hd.1) (fun k hk => Nat.lt_of_lt_of_le hk.1 hX.size))).mono ?_
  rintro en w3 ⟨rfl, hrep⟩
  refine hK.out _ _ ((Fr.of hX).trans (by rcases hrep with ⟨_, hz⟩ | ⟨_, _, hz⟩; exact Fr.of hz; exact hz.1)) (fun hH => ?_)
  clear hK
  (try simp only [Bk.PU, Act.put])
  refine wpAnyH_done (by kernel_rfl) ?_ _
  have HX2 := Lib.hid hX; have HREP := Lib.hid hrep
  clear hX hH hrep
  -- behind the report
  have HRP : Hid (∃ q3 n3, Flt w3 bf base q3 n3 ∧ (n ≤ n3 ∧ n3 ≤ n + 1) ∧ (n3 = n → K0) ∧ Emt bf w1 w3 q q3) := Lib.hid (by
    rcases HREP.out with ⟨e0, hbz⟩ | ⟨q3, hf3, he3⟩
    · have hbw : Below w1.heap.size w1 w3 := HX2.out.next hbz
      exact ⟨q, n, HFL1.out.next hbw, by omega, fun _ => HKE.out e0, ⟨Fr.of hbw, .inl rfl⟩⟩
    · exact ⟨q3, n + 1, hf3, by omega, fun h => by omega, Emt.pre HX2.out he3⟩)
  obtain ⟨q3, n3, hf3, hn3, hk3, he3⟩ := HRP.out
  have HF3 := Lib.hid hf3; have HK3 := Lib.hid hk3; have HE3 := Lib.hid he3
  have HK6b := Lib.hid (he3.1.blk HK6.out (HNO.out _ (.inr rfl)))
  clear hf3 hk3 he3 HRP HREP HX2 HKE HFA
  obtain ⟨z_1, T_1, F_1⟩ := HK6b.out.open_
  go_wp2_with fail
  clear T_1 z_1 F_1
  go_loopw [55] (fun v55 wr => ∃ (j : Nat) (qc : Value) (nc : Nat), j ≤ xn ∧ v55 = .int .i64 j ∧ Flt wr bf base qc nc ∧ (n ≤ nc ∧ nc ≤ n + 1 + sumTo c j) ∧ (nc = n → K0 ∧ ∀ i, i < j → Kq i) ∧ Emt bf w1 wr q qc) (fun v _ => xn - (intOf v).toNat)
  case atStart => exact ⟨0, q3, n3, Nat.zero_le _, rfl, HF3.out, by simp only [sumTo]; omega, fun h => ⟨HK3.out h, fun i hi => absurd hi (Nat.not_lt_zero _)⟩, HE3.out⟩
  case round =>
    obtain ⟨j, qc, nc, hj, rfl, hfc, hnc2, hkc, hec⟩ := hrel
    have HFC := Lib.hid hfc; have HKK := Lib.hid hkc; have HEM := Lib.hid hec
    have HKPr := Lib.hid (hec.1.blk HK5.out (HNO.out _ (.inl rfl))); have HKNr := Lib.hid (hec.1.blk HK6.out (HNO.out _ (.inr rfl)))
    have hbr : Below w'.heap.size w' w' := Below.refl _ _
    have HBr : Hid (Below B w wr) := Lib.hid (HW1.out.trans (hec.1.below (by omega) (fun kk hk => by rcases hk with e | e; omega; have := (HQ0.out _ e).1; omega)))
    have HRr := Lib.hid (HR1.out.emt HFL1.out hec); have HPr := Lib.hid (Dn.emt HP1.out hec)
    have HQL : Hid (∀ kk, qc.ownBlock = some kk → kk < wr.heap.size) := Lib.hid fun kk hk => by obtain ⟨xs, ho, _⟩ := HFC.out.own; exact (own_gE ho hk).2
    have HNr : Hid (∀ kk, kk = w'.heap.size ∨ kk = w'.heap.size + 1 → ¬ (kk = bf ∨ qc.ownBlock = some kk)) := Lib.hid fun kk hk ho => by
      rcases ho with ho | ho
      · omega
      · rcases HEM.out.2 with e | e
        · exact HNO.out kk hk (.inr (by rw [← e]; exact ho))
        · have := e kk ho; omega
    have hzr := hec.1.size
    clear hfc hkc hec hbr
    by_cases hjn : j < xn
    · obtain ⟨y, hky, hoy⟩ := HKID.out j hjn
      obtain ⟨g, o, hA2, hgB, c0, c1, c2, c3⟩ := hky.cells HBr.out
      simp only at hA2
      subst hA2
      have HOY := Lib.hid hoy
      have j0 : (0 : Int) ≤ (j : Int) := by omega
      have j1 : (j : Int) < (xn : Int) := by omega
      have hsj := sumTo_le (s := c) (show j + 1 ≤ xn from hjn)
      simp only [sumTo] at hsj
      clear hky hoy
      go_upto_region 11 with fail
      refine wp_nameE ?_
      intro w5 hw5
      have hb5 : Below wr.heap.size wr w5 := by rw [hw5]; exact (by go_grown)
      have KY : Blk w5 wr.heap.size 24 #[.int .u8 y.k, .int .i64 y.num, .string y.nm, .slice y.A y.n y.cap] := by rw [hw5]; exact (by repeat' (first | assumption | exact Blk.new' (by simp) _ _ | apply Blk.alloc | apply Blk.drew))
      have HKY := Lib.hid KY; have HX5 := Lib.hid hb5
      have HB5 := Lib.hid (HBr.out.trans (hb5.mono (by omega)))
      have HKP5 := Lib.hid (HKPr.out.next hb5); have HKN5 := Lib.hid (HKNr.out.next hb5)
      have HR5 := Lib.hid (HRr.out.next hb5); have HFL5 := Lib.hid (HFC.out.next hb5); have HP5 := Lib.hid (Dn.next HPr.out hb5)
      have hz5 : wr.heap.size < w5.heap.size := KY.lt
      have HNQ : Hid (∀ kk, kk = w'.heap.size ∨ kk = w'.heap.size + 1 ∨ kk = wr.heap.size → ¬ (kk = bf ∨ qc.ownBlock = some kk)) := Lib.hid fun kk hk ho => by
        rcases hk with hk | hk | hk
        · exact HNr.out kk (.inl hk) ho
        · exact HNr.out kk (.inr hk) ho
        · rcases ho with ho | ho
          · omega
          · have := HQL.out _ ho; omega
      replace HQL : Hid (∀ kk, qc.ownBlock = some kk → kk < w5.heap.size) := Lib.hid fun kk hk => by have := HQL.out kk hk; omega
      have hbf5 : bf < w5.heap.size := by omega
      clear hw5 c0 c1 c2 c3 hb5 KY HKPr HKNr HRr HPr HBr HFC HNr
      refine wp_region_held_drew (S := fun W => Fr (fun kk => kk = bf ∨ qc.ownBlock = some kk) w5 W) (by kernel_rfl) ((Fr.refl _ _).drew) (fun hH => ?_)
      refine wpAnyH_atN ?_
      intro wa hwa
      have hX : Below w5.heap.size w5 wa := by rw [hwa]; exact (Below.refl _ _).drew
      replace hH : Fr (fun kk => kk = bf ∨ qc.ownBlock = some kk) w5 wa := Fr.of hX
      clear hwa
      refine wpAnyH_take (i := 0) (v := ?_) rfl (by kernel_rfl) (by kernel_rfl) (by kernel_rfl) (fun _ _ _ h => h) (Or.inl ⟨by rfl, ?hy⟩) hH ?_
      case hy => (intro w9_ hS9; have t := (hS9.blk HKP5.out (HNQ.out _ (.inl rfl))).cell; clear hS9; go_simp; try with_reducible rfl)
      (try simp only [Bk.PU, Act.put])
      refine wpAnyH_take (i := 1) (v := ?_) rfl (by kernel_rfl) (by kernel_rfl) (by kernel_rfl) (fun _ _ _ h => h) (Or.inl ⟨by rfl, ?hy⟩) hH ?_
      case hy => (intro w9_ hS9; have t := (hS9.blk HKY.out (HNQ.out _ (.inr (.inr rfl)))).cell; clear hS9; go_simp; try with_reducible rfl)
      (try simp only [Bk.PU, Act.put])
      refine wpAnyH_take (i := 2) (v := ?_) rfl (by kernel_rfl) (by kernel_rfl) (by kernel_rfl) (fun _ _ _ h => h) (Or.inl ⟨by rfl, ?hy⟩) hH ?_
      case hy => (intro w9_ hS9; clear hS9; go_simp; try with_reducible rfl)
      (try simp only [Bk.PU, Act.put])
      refine wpAnyH_take (i := 3) (v := ?_) rfl (by kernel_rfl) (by kernel_rfl) (by kernel_rfl) (fun _ _ _ h => h) (Or.inl ⟨by rfl, ?hy⟩) hH ?_
      case hy => (intro w9_ hS9; clear hS9; go_simp; try with_reducible rfl)
      (try simp only [Bk.PU, Act.put])
      refine wpAnyH_take (i := 5) (v := ?_) rfl (by kernel_rfl) (by kernel_rfl) (by kernel_rfl) (fun _ _ _ h => h) (Or.inl ⟨by rfl, ?hy⟩) hH ?_
      case hy => (intro w9_ hS9; have t := (hS9.blk HKN5.out (HNQ.out _ (.inr (.inl rfl)))).cell; clear hS9; go_simp; try with_reducible rfl)
      (try simp only [Bk.PU, Act.put])
      refine wpAnyH_take (i := 6) (v := ?_) rfl (by kernel_rfl) (by kernel_rfl) (by kernel_rfl) (fun _ _ _ h => h) (Or.inl ⟨by rfl, ?hy⟩) hH ?_
      case hy => (intro w9_ hS9; clear hS9; go_simp; try with_reducible rfl)
      (try simp only [Bk.PU, Act.put])
      refine wpAnyH_take (i := 7) (v := ?_) rfl (by kernel_rfl) (by kernel_rfl) (by kernel_rfl) (fun _ _ _ h => h) (Or.inl ⟨by rfl, ?hy⟩) hH ?_
      case hy => (intro w9_ hS9; clear hS9; go_simp; try with_reducible rfl)
      (try simp only [Bk.PU, Act.put])
      refine wpAnyH_take (i := 9) (v := ?_) rfl (by kernel_rfl) (by kernel_rfl) (by kernel_rfl) (fun _ _ _ h => h) (Or.inl ⟨by rfl, ?hy⟩) hH ?_
      case hy => (intro w9_ hS9; clear hS9; go_simp; try with_reducible rfl)
      (try simp only [Bk.PU, Act.put])
      refine wpAnyH_ready (rs := [4]) (by kernel_rfl) (by simp) ?_
      refine AllReadyH.cons rfl (fun K hK => ?_) (AllReadyH.nil)
      go_simp
      refine (e_child _ (Dn.next HP5.out hX) (fun k hk => hk.1) (by omega) (j : Int)).mono ?_
      rintro en wb ⟨v_c, rfl, hown, hbn⟩
      have HOC := Lib.hid hown
      have HYC := Lib.hid (show w5.heap.size ≤ wa.heap.size from hX.size)
      replace hX := hX.next hbn
      clear hown hbn
      refine hK.out _ _ (Fr.of hX) (fun hH => ?_)
      clear hK
      (try simp only [Bk.PU, Act.put])
      refine wpAnyH_ready (rs := [8]) (by kernel_rfl) (by simp) ?_
      refine AllReadyH.cons rfl (fun K hK => ?_) (AllReadyH.nil)
      go_simp
      refine (e_inner ⟨k, num, nm, some ⟨g, o, none⟩, xn, cap⟩ k54 k55 (j : Int) V nv cv _).mono ?_
      rintro en wc ⟨rfl, hbn⟩
      replace hX := hX.next hbn
      replace HOC := Lib.hid (own_below HOC.out hbn (Nat.le_refl _))
      clear hbn
      refine hK.out _ _ (Fr.of hX) (fun hH => ?_)
      clear hK
      (try simp only [Bk.PU, Act.put])
      refine wpAnyH_ready (rs := [10]) (by kernel_rfl) (by simp) ?_
      refine AllReadyH.cons rfl (fun K hK => ?_) (AllReadyH.nil)
      go_simp
      obtain ⟨A_c, c_c, rfl⟩ := own_form HOC.out
      have hSL : Sl wc (Dn bf qc wc) 1 (.slice A_c (l.length + 1) c_c) (l ++ [(j : Int)]).length (intCells (l ++ [(j : Int)])) := by rw [show (l ++ [(j : Int)]).length = l.length + 1 by simp]; exact (Sl.of_own HOC.out).keep (fun _ _ _ => rfl) (fun kk hk => ⟨hk.2, by have h1 := HYC.out; have h2 := HQL.out; have h3 := hk.1; rintro (e | e); omega; have := h2 _ e; omega⟩)
      refine (HOY.out wc bf b4 b1 base qc nc _ (l ++ [(j : Int)]) (HB5.out.trans (hX.mono (by omega))) hBbf hBba (HR5.out.next hX) (HFL5.out.next hX) (by omega) hSL (by simp; omega)).mono ?_
      rintro en w8 ⟨rfl, q8, n8, hf8, hn8, hk8, he8⟩
      refine hK.out _ _ ((Fr.of hX).trans he8.1) (fun hH => ?_)
      clear hK
      (try simp only [Bk.PU, Act.put])
      refine wpAnyH_done (by kernel_rfl) ?_ _
      have HF8 := Lib.hid hf8; have HK8 := Lib.hid hk8; have HE8 := Lib.hid (Emt.pre hX he8)
      clear hf8 hk8 he8 hX hH
      go_wp2_with fail
      exact ⟨⟨j + 1, q8, n8, by omega, by go_num, HF8.out, by have hq : sumTo c (j + 1) = sumTo c j + c j := rfl; omega, (fun h => ⟨(HKK.out (by omega)).1, fun i hi => (Nat.lt_succ_iff_lt_or_eq.1 hi).elim (fun h1 => (HKK.out (by omega)).2 i h1) (fun h1 => by subst h1; exact HK8.out (by omega))⟩), (HEM.out.trans (Emt.pre HX5.out HE8.out))⟩, by simp [intOf]; omega⟩
    · obtain rfl : j = xn := by omega
      go_wp2_with fail
      refine bodyPost_end (results_none rfl _ _ _) rfl ?_
      exact ⟨rfl, qc, nc, HFC.out, by omega, HKK.out, Emt.pre HB1.out HEM.out⟩
end Go.Proofs.YtbijhlgdilkopaaGreatDoor
