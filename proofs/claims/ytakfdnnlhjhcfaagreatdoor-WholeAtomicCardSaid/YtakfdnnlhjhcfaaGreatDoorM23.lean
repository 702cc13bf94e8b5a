/- WhJp WhJq. -/
import Derived.Test.YtakfdnnlhjhcfaaGreatDoorZWhJo
set_option linter.unusedVariables false
set_option linter.unusedSimpArgs false
set_option linter.unusedSimpArgs false
set_option maxRecDepth 100000
set_option maxHeartbeats 4000000
namespace Go.Proofs.YtakfdnnlhjhcfaaGreatDoor
open Go.RowKit Bk
structure RepX (w : World) (bf b4 b1 base : Nat) (q : Value) (t1 : TypeId) (c1 : Array Value) : Prop where
  f : Blk w b4 70 #[(.func (.func 29) #[] #[.pointer (some ⟨bf, 0, none⟩)])]
  p : Blk w b1 t1 c1
  h : bf < base ∧ base ≤ w.heap.size
  n4 : Dn bf q w b4
  n1 : Dn bf q w b1
theorem RepX.next {w w' : World} {bf b4 b1 base : Nat} {q : Value} {t1 : TypeId} {c1 : Array Value} (h : RepX w bf b4 b1 base q t1 c1) (hb : Below w.heap.size w w') : RepX w' bf b4 b1 base q t1 c1 :=
  ⟨h.f.next hb, h.p.next hb, ⟨h.h.1, Nat.le_trans h.h.2 hb.size⟩, ⟨Nat.lt_of_lt_of_le h.n4.1 hb.size, h.n4.2⟩, ⟨Nat.lt_of_lt_of_le h.n1.1 hb.size, h.n1.2⟩⟩
theorem Dn.kb {bf k : Nat} {q q' : Value} {w w' : World} (h : Dn bf q w k) (he : Emt bf w w' q q') : Dn bf q' w' k :=
  ⟨Nat.lt_of_lt_of_le h.1 he.1.size, fun ho => by
    rcases ho with ho | ho
    · exact h.2 (.inl ho)
    · rcases he.2 with e | e
      · exact h.2 (.inr (by rw [← e]; exact ho))
      · have := e k ho; have := h.1; omega⟩
theorem RepX.emt {w w' : World} {bf b4 b1 base : Nat} {q q' : Value} {t1 : TypeId} {c1 : Array Value} (h : RepX w bf b4 b1 base q t1 c1) (he : Emt bf w w' q q') : RepX w' bf b4 b1 base q' t1 c1 :=
  ⟨he.1.blk h.f h.n4.2, he.1.blk h.p h.n1.2, ⟨h.h.1, Nat.le_trans h.h.2 he.1.size⟩, h.n4.kb he, h.n1.kb he⟩
def RepE (w w' : World) (bf base : Nat) (q : Value) (n : Nat) (err : Int) : Prop := ∃ q', Flt w' bf base q' (n + one err) ∧ Emt bf w w' q q'
theorem RepP.e {w w' : World} {bf base : Nat} {q : Value} {n : Nat} {err : Int} (hf : Flt w bf base q n) (h : RepP w w' bf base q n err) : RepE w w' bf base q n err := by
  rcases h with ⟨rfl, hb⟩ | ⟨h0, q', h1, h2⟩
  · exact ⟨q, hf.next hb, Fr.of hb, .inl rfl⟩
  · exact ⟨q', by unfold one; rw [if_neg h0]; exact h1, h2⟩
def RepC (g : FuncId) (t1 : TypeId) (c1 : Array Value) : Prop := ∀ (w : World) (bf b4 b1 base : Nat) (q : Value) (n : Nat), RepX w bf b4 b1 base q t1 c1 → Flt w bf base q n → n ≤ 1000000 → ∀ (err : Int) (nm : ByteArray) (v : Value) (l : List Int), l.length ≤ 17592186043904 → Sl w (fun k => k < w.heap.size) 1 v l.length (intCells l) → Calls Tryz.prog g #[v, .string nm, .int .i64 err, .pointer (some ⟨b4, 0, none⟩), .pointer (some ⟨b1, 0, none⟩)] w fun en w' => en = .returned (.tuple #[]) ∧ RepE w w' bf base q n err
theorem e_rep3 {V : Option Addr} {nv cv : Nat} {Q : Option Addr} {nq cq : Nat} (m : Nd) : RepC 35 28 #[.slice V nv cv, .slice Q nq cq, .int .u8 m.k, .int .i64 m.num, .string m.nm, .slice m.A m.n m.cap] := by
  intro w bf b4 b1 base q n hr hf hn err nm v l hl hs
  have HR := Lib.hid fun pr => (e_report hf hr.h.1 hr.h.2 hn pr err nm hl hs).mono (fun en w' h => (⟨h.1, RepP.e hf h.2⟩ : en = .returned (.tuple #[]) ∧ RepE w w' bf base q n err))
  obtain ⟨z_4, T_4, F_4⟩ := hr.f.open_
  obtain ⟨z_1, T_1, F_1⟩ := hr.p.open_
  clear hr hf hs
  obtain ⟨mk, mnum, mnm, mA, mn, mcap⟩ := m
  dsimp only at *
  go_enter Tryz.func35, Tryz.ntmps35
  go_wp2_with fail
  refine (HR.out _).mono ?_
  rintro en w1 ⟨rfl, hp⟩
  have HP := Lib.hid hp
  clear hp T_4 z_4 F_4 T_1 z_1 F_1
  go_wp2_with fail
  refine bodyPost_end (results_none rfl _ _ _) rfl ?_
  exact ⟨rfl, HP.out⟩
theorem e_rep2 (i : Int) : RepC 34 3 #[.int .i64 i] := by
  intro w bf b4 b1 base q n hr hf hn err nm v l hl hs
  have HR := Lib.hid fun pr => (e_report hf hr.h.1 hr.h.2 hn pr err nm hl hs).mono (fun en w' h => (⟨h.1, RepP.e hf h.2⟩ : en = .returned (.tuple #[]) ∧ RepE w w' bf base q n err))
  obtain ⟨z_4, T_4, F_4⟩ := hr.f.open_
  obtain ⟨z_1, T_1, F_1⟩ := hr.p.open_
  clear hr hf hs
  go_enter Tryz.func34, Tryz.ntmps34
  go_wp2_with fail
  refine (HR.out _).mono ?_
  rintro en w1 ⟨rfl, hp⟩
  have HP := Lib.hid hp
  clear hp T_4 z_4 F_4 T_1 z_1 F_1
  go_wp2_with fail
  refine bodyPost_end (results_none rfl _ _ _) rfl ?_
  exact ⟨rfl, HP.out⟩
def VisX (w : World) (B : Nat) (g : FuncId) (t1 : TypeId) (c1 : Array Value) (pv : Value) (x : Nd) (dp : Nat) (cn : List Vr → Nat) : Prop :=
  ∀ (w' : World) (bf b4 b1 base : Nat) (q : Value) (n : Nat) (pa : Value) (l : List Int) (A : Option Addr) (na ca : Nat) (vs : List Vr), Below B w w' → B ≤ bf → B ≤ base → RepX w' bf b4 b1 base q t1 c1 → Flt w' bf base q n → n + cn vs ≤ 1000000 → Sl w' (Dn bf q w') 1 pa l.length (intCells l) → l.length + dp ≤ 1000 → Sl w' (Dn bf q w') 3 (.slice A na ca) na (varCells vs) → vs.length = na → na + dp ≤ 1000 →
    Calls Tryz.prog 33 #[pv, .agg #[.int .u8 x.k, .int .i64 x.num, .string x.nm, .slice x.A x.n x.cap], pa, .slice A na ca, .func (.func g) #[] #[.pointer (some ⟨b4, 0, none⟩), .pointer (some ⟨b1, 0, none⟩)]] w' fun en w'' => en = .returned (.tuple #[]) ∧ ∃ q', Flt w'' bf base q' (n + cn vs) ∧ Emt bf w' w'' q q'
theorem e_visitK {w : World} {B : Nat} (hBw : B ≤ w.heap.size) (V : Option Addr) (nv cv : Nat) (Q : Option Addr) (nq cq : Nat) (m : Nd) {g : FuncId} {t1 : TypeId} {c1 : Array Value} (eg : ∀ (args : Array Value) (w : World), (callFunc g args).run Tryz.prog w = .ok (.enter g args) w) (hrc : RepC g t1 c1) (x : Nd) (dp : Nat) (fe : List Vr → Int)
    (hfa : ∀ (W : World) (A : Option Addr) (na ca : Nat) (vs : List Vr), Below B w W → VsAt W W.heap.size A vs → vs.length = na → na ≤ 1000 → Calls Tryz.prog 58 #[.agg #[.slice V nv cv, .slice Q nq cq, .int .u8 m.k, .int .i64 m.num, .string m.nm, .slice m.A m.n m.cap], .agg #[.int .u8 x.k, .int .i64 x.num, .string x.nm, .slice x.A x.n x.cap], .slice A na ca] W fun en w'' => en = .returned (.int .i64 (fe vs)) ∧ Below W.heap.size W w'') (hxn : x.n ≤ 17592186043904) (k50 : (x.k == 50) = false) (k51 : (x.k == 51) = false)
    (cn : Nat → List Vr → Nat) (hkid : ∀ i, i < x.n → ∃ y, Kid w B x i y ∧ VisX w B g t1 c1 (.agg #[.slice V nv cv, .slice Q nq cq, .int .u8 m.k, .int .i64 m.num, .string m.nm, .slice m.A m.n m.cap]) y dp (cn i)) :
    VisX w B g t1 c1 (.agg #[.slice V nv cv, .slice Q nq cq, .int .u8 m.k, .int .i64 m.num, .string m.nm, .slice m.A m.n m.cap]) x (dp + 1) (fun vs => one (fe vs) + sumTo (fun i => cn i (innerX x i vs)) x.n) := by
  intro w' bf b4 b1 base q n pv l A na ca vs hb hBbf hBba hrep hfl hnc hpa hpl hvs hnv hna
  dsimp only at hnc ⊢
  have HB := Lib.hid hb; have HKID := Lib.hid hkid
  have hBw' : B ≤ w'.heap.size := by have := hb.size; omega
  have hl : l.length ≤ 17592186043904 := by omega
  obtain ⟨e0, he0⟩ : ∃ e, fe vs = e := ⟨_, rfl⟩
  have HFA : Hid (∀ W, Below B w W → VsAt W W.heap.size A vs → Calls Tryz.prog 58 #[.agg #[.slice V nv cv, .slice Q nq cq, .int .u8 m.k, .int .i64 m.num, .string m.nm, .slice m.A m.n m.cap], .agg #[.int .u8 x.k, .int .i64 x.num, .string x.nm, .slice x.A x.n x.cap], .slice A na ca] W fun en w'' => en = .returned (.int .i64 e0) ∧ Below W.heap.size W w'') := Lib.hid fun W h1 h2 => by rw [← he0]; exact hfa W A na ca vs h1 h2 hnv (by omega)
  have HNV := Lib.hid hnv
  have HRC := Lib.hid hrc
  have eg' := eg
  have hbfl := hfl.blk.lt
  have HQ0 : Hid (∀ k, q.ownBlock = some k → base ≤ k ∧ k < w'.heap.size) := Lib.hid fun k hk => by obtain ⟨xs, ho, _⟩ := hfl.own; exact own_gE ho hk
  have HR := Lib.hid hrep; have HFL := Lib.hid hfl; have HP := Lib.hid hpa; have HVS := Lib.hid hvs
  obtain ⟨hbb1, hbb2⟩ := hrep.h
  have HIN : Hid (∀ (W : World) (i : Nat) (D : Nat → Prop), Sl W D 3 (.slice A na ca) na (varCells vs) → (∀ k, D k → k < W.heap.size) → Calls Tryz.prog 61 #[.agg #[.int .u8 x.k, .int .i64 x.num, .string x.nm, .slice x.A x.n x.cap], .int .i64 i, .slice A na ca] W fun en w' => ∃ A' c', en = .returned (.slice A' (innerX x i vs).length c') ∧ Sl w' (fun k => D k ∨ W.heap.size ≤ k ∧ k < w'.heap.size) 3 (.slice A' (innerX x i vs).length c') (innerX x i vs).length (varCells (innerX x i vs)) ∧ Below W.heap.size W w') := Lib.hid fun W i D h1 h2 => e_innerX x i h1 h2 hnv (by omega)
  have HIL0 : ∀ i, (innerX x i vs).length ≤ na + 1 := fun i => by have := innerX_len x i vs; omega
  obtain ⟨iv, hiv⟩ : ∃ iv : Nat → List Vr, (fun i => innerX x i vs) = iv := ⟨_, rfl⟩
  have hiv' : ∀ i, innerX x i vs = iv i := fun i => congrFun hiv i
  obtain ⟨c, hcd⟩ : ∃ c : Nat → Nat, (fun i => cn i (innerX x i vs)) = c := ⟨_, rfl⟩
  have HCN : Hid (∀ i, cn i (iv i) = c i) := Lib.hid fun i => by rw [← hiv' i]; exact congrFun hcd i
  have HIL : Hid (∀ i, (iv i).length ≤ na + 1) := Lib.hid fun i => by rw [← hiv' i]; exact HIL0 i
  simp only [hiv'] at HIN
  rw [hcd] at hnc ⊢
  clear hiv hiv' hcd HIL0
  rw [he0] at hnc ⊢
  obtain ⟨k, num, nm, A0, xn, cap⟩ := x
  obtain ⟨mk, mnum, mnm, mA, mn, mcap⟩ := m
  dsimp only at *
  clear hb hkid hfa hrep hfl hpa hvs he0 hrc hnv eg
  go_enter Tryz.func33, Tryz.ntmps33
  go_upto_region 1 with fail
  refine wp_nameE ?_
  intro w1 hw1
  have hb1 : Below w'.heap.size w' w1 := by rw [hw1]; exact (by go_grown)
  have K5 : Blk w1 w'.heap.size 28 #[.slice V nv cv, .slice Q nq cq, .int .u8 mk, .int .i64 mnum, .string mnm, .slice mA mn mcap] := by rw [hw1]; exact blkA
  have K6 : Blk w1 (w'.heap.size + 1) 26 #[.int .u8 k, .int .i64 num, .string nm, .slice A0 xn cap] := by rw [hw1]; exact Blk.new' (by simp) _ _
  have HK5 := Lib.hid K5; have HK6 := Lib.hid K6; have HB1 := Lib.hid hb1
  have hz1 : w'.heap.size + 1 < w1.heap.size := K6.lt
  have HW1 := Lib.hid (HB.out.trans (hb1.mono hBw'))
  have HR1 := Lib.hid (HR.out.next hb1); have HFL1 := Lib.hid (HFL.out.next hb1); have HP1 := Lib.hid (Dn.next HP.out hb1); have HVS1 := Lib.hid (dn_next HVS.out hb1)
  clear hw1 hb1 K5 K6
  have hno5 : ∀ kk, kk = w'.heap.size ∨ kk = w'.heap.size + 1 → ¬ (kk = bf ∨ q.ownBlock = some kk) := fun kk hk ho => by
    rcases ho with ho | ho
    · omega
    · have := HQ0.out _ ho; omega
  have HNO := Lib.hid hno5
  clear hno5
  refine wp_region_held_drew (S := fun W => Fr (fun kk => kk = bf ∨ q.ownBlock = some kk) w1 W) (by kernel_rfl) ((Fr.refl _ _).drew) (fun hH => ?_)
  refine wpAnyH_atN ?_
  intro wa hwa
  have hX : Below w1.heap.size w1 wa := by rw [hwa]; exact (Below.refl _ _).drew
  replace hH : Fr (fun kk => kk = bf ∨ q.ownBlock = some kk) w1 wa := Fr.of hX
  clear hwa
  refine tkQ 0 (v := ?_) rfl hH ?_
  (try simp only [PU, Act.put])
  refine tkQ 1 (v := ?_) rfl hH ?_
  (try simp only [PU, Act.put])
  refine tkQ 2 (v := ?_) rfl hH ?_
  (try simp only [PU, Act.put])
  refine tkK 3 (v := ?_) rfl ?hy hH ?_
  case hy => (intro w9_ hS9; have t := (hS9.blk HK6.out (HNO.out _ (.inr rfl))).cell; clear hS9; go_simp; try with_reducible rfl)
  (try simp only [PU, Act.put])
  refine tkK 4 (v := ?_) rfl ?hy hH ?_
  case hy => (intro w9_ hS9; have t := (hS9.blk HK5.out (HNO.out _ (.inl rfl))).cell; clear hS9; go_simp; try with_reducible rfl)
  (try simp only [PU, Act.put])
  refine tkK 5 (v := ?_) rfl ?hy hH ?_
  case hy => (intro w9_ hS9; have t := (hS9.blk HK6.out (HNO.out _ (.inr rfl))).cell; clear hS9; go_simp; try with_reducible rfl)
  (try simp only [PU, Act.put])
  refine tkQ 6 (v := ?_) rfl hH ?_
  (try simp only [PU, Act.put])
  refine nxH 7 (by kernel_rfl) rfl (fun K hK => ?_)
  go_simp
  refine (HFA.out _ (HW1.out.trans (hX.mono (by omega))) (sl_vs (dn_next HVS1.out hX) HNV.out (fun kk hk => hk.1))).mono ?_
  rintro en wb ⟨rfl, hbn⟩
  replace hX := hX.next hbn
  clear hbn
  refine hK.out _ _ (Fr.of hX) (fun hH => ?_)
  clear hK
  (try simp only [PU, Act.put])
  refine nxH 8 (by kernel_rfl) rfl (fun K hK => ?_)
  go_simp
  refine (HRC.out wb bf b4 b1 base q n (HR1.out.next hX) (HFL1.out.next hX) (by omega) e0 nm _ l hl (Sl.keep HP1.out (D' := fun k => k < wb.heap.size) (fun b o hd => hX.cell (p := ⟨b, o, none⟩) hd.1) (fun k hk => Nat.lt_of_lt_of_le hk.1 hX.size))).mono ?_
  rintro en w3 ⟨rfl, q3, hf3, he3⟩
  refine hK.out _ _ ((Fr.of hX).trans he3.1) (fun hH => ?_)
  clear hK
  (try simp only [PU, Act.put])
  refine wpAnyH_done (by kernel_rfl) ?_ _
  have HE3 := Lib.hid (Emt.pre hX he3); have HF3 := Lib.hid hf3
  clear hX hH hf3 he3
  -- behind the report
  have HK6b := Lib.hid (HE3.out.1.blk HK6.out (HNO.out _ (.inr rfl)))
  clear HFA
  obtain ⟨z_1, T_1, F_1⟩ := HK6b.out.open_
  go_wp2_with fail
  clear T_1 z_1 F_1
  go_loopw [55] (fun v55 wr => ∃ (j : Nat) (qc : Value), j ≤ xn ∧ v55 = .int .i64 j ∧ Flt wr bf base qc (n + one e0 + sumTo c j) ∧ Emt bf w1 wr q qc) (fun v _ => xn - (intOf v).toNat)
  case atStart => exact ⟨0, q3, Nat.zero_le _, rfl, HF3.out, HE3.out⟩
  case round =>
    obtain ⟨j, qc, hj, rfl, hfc, hec⟩ := hrel
    have HFC := Lib.hid hfc; have HEM := Lib.hid hec
    have HKPr := Lib.hid (hec.1.blk HK5.out (HNO.out _ (.inl rfl))); have HKNr := Lib.hid (hec.1.blk HK6.out (HNO.out _ (.inr rfl)))
    have HBr : Hid (Below B w wr) := Lib.hid (HW1.out.trans (hec.1.below (by omega) (fun kk hk => by rcases hk with e | e; omega; have := (HQ0.out _ e).1; omega)))
    have HRr := Lib.hid (HR1.out.emt hec); have HPr := Lib.hid (Dn.emt HP1.out hec); have HVSr := Lib.hid (dn_emt HVS1.out hec)
    have HQL : Hid (∀ kk, qc.ownBlock = some kk → kk < wr.heap.size) := Lib.hid fun kk hk => by obtain ⟨xs, ho, _⟩ := HFC.out.own; exact (own_gE ho hk).2
    have HNr : Hid (∀ kk, kk = w'.heap.size ∨ kk = w'.heap.size + 1 → ¬ (kk = bf ∨ qc.ownBlock = some kk)) := Lib.hid fun kk hk ho => by
      rcases ho with ho | ho
      · omega
      · rcases HEM.out.2 with e | e
        · exact HNO.out kk hk (.inr (by rw [← e]; exact ho))
        · have := e kk ho; omega
    have hzr := hec.1.size
    clear hfc hec
    by_cases hjn : j < xn
    · obtain ⟨y, hky, hoy⟩ := HKID.out j hjn
      obtain ⟨g1, o, hA2, hgB, c0, c1', c2, c3⟩ := hky.cells HBr.out
      simp only at hA2
      subst hA2
      have HOY := Lib.hid hoy
      have j0 : (0 : Int) ≤ (j : Int) := by omega
      have j1 : (j : Int) < (xn : Int) := by omega
      have hsj := sumTo_le (s := c) (show j + 1 ≤ xn from hjn)
      simp only [sumTo] at hsj
      clear hky hoy
      go_upto_region 11 with fail
      refine wp_nameE ?_
      intro w5 hw5
      have hb5 : Below wr.heap.size wr w5 := by rw [hw5]; exact (by go_grown)
      have KY : Blk w5 wr.heap.size 26 #[.int .u8 y.k, .int .i64 y.num, .string y.nm, .slice y.A y.n y.cap] := by rw [hw5]; exact blkA
      have HKY := Lib.hid KY; have HX5 := Lib.hid hb5
      have HB5 := Lib.hid (HBr.out.trans (hb5.mono (by omega)))
      have HKP5 := Lib.hid (HKPr.out.next hb5); have HKN5 := Lib.hid (HKNr.out.next hb5)
      have HR5 := Lib.hid (HRr.out.next hb5); have HFL5 := Lib.hid (HFC.out.next hb5); have HP5 := Lib.hid (Dn.next HPr.out hb5); have HVS5 := Lib.hid (dn_next HVSr.out hb5)
      have hz5 : wr.heap.size < w5.heap.size := KY.lt
      have HNQ : Hid (∀ kk, kk = w'.heap.size ∨ kk = w'.heap.size + 1 ∨ kk = wr.heap.size → ¬ (kk = bf ∨ qc.ownBlock = some kk)) := Lib.hid fun kk hk ho => by
        rcases hk with hk | hk | hk
        · exact HNr.out kk (.inl hk) ho
        · exact HNr.out kk (.inr hk) ho
        · rcases ho with ho | ho
          · omega
          · have := HQL.out _ ho; omega
      replace HQL : Hid (∀ kk, qc.ownBlock = some kk → kk < w5.heap.size) := Lib.hid fun kk hk => by have := HQL.out kk hk; omega
      have hbf5 : bf < w5.heap.size := by omega
      clear hw5 c0 c1' c2 c3 hb5 KY HKPr HKNr HRr HPr HBr HFC HNr HVSr
      have HCJ := Lib.hid (HCN.out j)
      refine wp_region_held_drew (S := fun W => Fr (fun kk => kk = bf ∨ qc.ownBlock = some kk) w5 W) (by kernel_rfl) ((Fr.refl _ _).drew) (fun hH => ?_)
      refine wpAnyH_atN ?_
      intro wa hwa
      have hX : Below w5.heap.size w5 wa := by rw [hwa]; exact (Below.refl _ _).drew
      replace hH : Fr (fun kk => kk = bf ∨ qc.ownBlock = some kk) w5 wa := Fr.of hX
      clear hwa
      refine tkK 0 (v := ?_) rfl ?hy hH ?_
      case hy => (intro w9_ hS9; have t := (hS9.blk HKP5.out (HNQ.out _ (.inl rfl))).cell; clear hS9; go_simp; try with_reducible rfl)
      (try simp only [PU, Act.put])
      refine tkK 1 (v := ?_) rfl ?hy hH ?_
      case hy => (intro w9_ hS9; have t := (hS9.blk HKY.out (HNQ.out _ (.inr (.inr rfl)))).cell; clear hS9; go_simp; try with_reducible rfl)
      (try simp only [PU, Act.put])
      refine tkQ 2 (v := ?_) rfl hH ?_
      (try simp only [PU, Act.put])
      refine tkQ 3 (v := ?_) rfl hH ?_
      (try simp only [PU, Act.put])
      refine tkK 5 (v := ?_) rfl ?hy hH ?_
      case hy => (intro w9_ hS9; have t := (hS9.blk HKN5.out (HNQ.out _ (.inr (.inl rfl)))).cell; clear hS9; go_simp; try with_reducible rfl)
      (try simp only [PU, Act.put])
      refine tkQ 6 (v := ?_) rfl hH ?_
      (try simp only [PU, Act.put])
      refine tkQ 7 (v := ?_) rfl hH ?_
      (try simp only [PU, Act.put])
      refine tkQ 9 (v := ?_) rfl hH ?_
      (try simp only [PU, Act.put])
      refine nxH 4 (by kernel_rfl) rfl (fun K hK => ?_)
      go_simp
      refine (e_child _ (Dn.next HP5.out hX) (fun k hk => hk.1) (by omega) (j : Int)).mono ?_
      rintro en wb ⟨v_c, rfl, hown, hbn⟩
      have hyc : w5.heap.size ≤ wa.heap.size := hX.size
      obtain ⟨A_c, c_c, rfl⟩ := own_form hown
      have HSL : Hid (Sl wb (Dn bf qc wb) 1 (.slice A_c (l.length + 1) c_c) (l ++ [(j : Int)]).length (intCells (l ++ [(j : Int)]))) := Lib.hid (by rw [show (l ++ [(j : Int)]).length = l.length + 1 by simp]; exact (Sl.of_own hown).keep (fun _ _ _ => rfl) (fun kk hk => ⟨hk.2, by have h2 := HQL.out; have h3 := hk.1; rintro (e | e); omega; have := h2 _ e; omega⟩))
      replace hX := hX.next hbn
      clear hown hbn hyc
      refine hK.out _ _ (Fr.of hX) (fun hH => ?_)
      clear hK
      (try simp only [PU, Act.put])
      refine nxH 8 (by kernel_rfl) rfl (fun K hK => ?_)
      go_simp
      refine (HIN.out wb j (Dn bf qc wb) (dn_next HVS5.out hX) (fun kk hk => hk.1)).mono ?_
      rintro en wc ⟨A_i, c_i, rfl, hsi, hbn⟩
      have hyc : w5.heap.size ≤ wb.heap.size := hX.size
      have HSI : Hid (Sl wc (Dn bf qc wc) 3 (.slice A_i (iv j).length c_i) (iv j).length (varCells (iv j))) := Lib.hid (hsi.keep (fun _ _ _ => rfl) (fun kk hk => hk.elim (fun h => ⟨Nat.lt_of_lt_of_le h.1 hbn.size, h.2⟩) (fun h => ⟨h.2, by have h2 := HQL.out; rintro (e | e); omega; have := h2 _ e; omega⟩)))
      replace HSL := Lib.hid (dn_next HSL.out hbn)
      replace hX := hX.next hbn
      clear hsi hbn hyc
      refine hK.out _ _ (Fr.of hX) (fun hH => ?_)
      clear hK
      (try simp only [PU, Act.put])
      refine nxH 10 (by kernel_rfl) rfl (fun K hK => ?_)
      go_simp
      refine (HOY.out wc bf b4 b1 base qc _ _ (l ++ [(j : Int)]) A_i _ c_i (iv j) (HB5.out.trans (hX.mono (by omega))) hBbf hBba (HR5.out.next hX) (HFL5.out.next hX) (by rw [HCJ.out]; omega) HSL.out (by simp; omega) HSI.out rfl (by have := HIL.out j; omega)).mono ?_
      rintro en w8 ⟨rfl, q8, hf8, he8⟩
      rw [HCJ.out] at hf8
      refine hK.out _ _ ((Fr.of hX).trans he8.1) (fun hH => ?_)
      clear hK
      (try simp only [PU, Act.put])
      refine wpAnyH_done (by kernel_rfl) ?_ _
      have HF8 := Lib.hid hf8; have HE8 := Lib.hid (Emt.pre hX he8)
      clear hf8 he8 hX hH
      go_wp2_with fail
      exact ⟨⟨j + 1, q8, by omega, by go_num, by rw [show sumTo c (j + 1) = sumTo c j + c j from rfl, ← Nat.add_assoc]; exact HF8.out, HEM.out.trans (Emt.pre HX5.out HE8.out)⟩, by simp [intOf]; omega⟩
    · obtain rfl : j = xn := by omega
      go_wp2_with fail
      refine bodyPost_end (results_none rfl _ _ _) rfl ?_
      exact ⟨rfl, qc, by rw [← Nat.add_assoc]; exact HFC.out, Emt.pre HB1.out HEM.out⟩
theorem e_visitA {w : World} {B : Nat} (hBw : B ≤ w.heap.size) (V : Option Addr) (nv cv : Nat) (Q : Option Addr) (nq cq : Nat) (m : Nd) {g : FuncId} {t1 : TypeId} {c1 : Array Value} (eg : ∀ (args : Array Value) (w : World), (callFunc g args).run Tryz.prog w = .ok (.enter g args) w) (hrc : RepC g t1 c1) (x : Nd) (dp : Nat) (fe : List Vr → Int)
    (hfa : ∀ (W : World) (A : Option Addr) (na ca : Nat) (vs : List Vr), Below B w W → VsAt W W.heap.size A vs → vs.length = na → na ≤ 1000 → Calls Tryz.prog 58 #[.agg #[.slice V nv cv, .slice Q nq cq, .int .u8 m.k, .int .i64 m.num, .string m.nm, .slice m.A m.n m.cap], .agg #[.int .u8 x.k, .int .i64 x.num, .string x.nm, .slice x.A x.n x.cap], .slice A na ca] W fun en w'' => en = .returned (.int .i64 (fe vs)) ∧ Below W.heap.size W w'') (hxn : x.n ≤ 17592186043904) (hk : x.k = 50 ∨ x.k = 51)
    (ar : List Vr → Nat → Int) (hkid : ∀ i, i < x.n → ∃ y, Kid w B x i y ∧ ∀ (W : World) (A : Option Addr) (na ca : Nat) (vs : List Vr), Below B w W → VsAt W W.heap.size A vs → vs.length = na → na ≤ 1000 → Calls Tryz.prog 60 #[.agg #[.slice V nv cv, .slice Q nq cq, .int .u8 m.k, .int .i64 m.num, .string m.nm, .slice m.A m.n m.cap], .agg #[.int .u8 x.k, .int .i64 x.num, .string x.nm, .slice x.A x.n x.cap], .int .i64 i, .slice A na ca] W fun en w'' => en = .returned (.int .i64 (ar vs i)) ∧ Below W.heap.size W w'') :
    VisX w B g t1 c1 (.agg #[.slice V nv cv, .slice Q nq cq, .int .u8 m.k, .int .i64 m.num, .string m.nm, .slice m.A m.n m.cap]) x (dp + 1) (fun vs => one (fe vs) + sumTo (fun i => one (ar vs i)) x.n) := by
  intro w' bf b4 b1 base q n pv l A na ca vs hb hBbf hBba hrep hfl hnc hpa hpl hvs hnv hna
  dsimp only at hnc ⊢
  have HB := Lib.hid hb; have HKID := Lib.hid hkid
  have hBw' : B ≤ w'.heap.size := by have := hb.size; omega
  have hl : l.length ≤ 17592186043904 := by omega
  obtain ⟨e0, he0⟩ : ∃ e, fe vs = e := ⟨_, rfl⟩
  have HFA : Hid (∀ W, Below B w W → VsAt W W.heap.size A vs → Calls Tryz.prog 58 #[.agg #[.slice V nv cv, .slice Q nq cq, .int .u8 m.k, .int .i64 m.num, .string m.nm, .slice m.A m.n m.cap], .agg #[.int .u8 x.k, .int .i64 x.num, .string x.nm, .slice x.A x.n x.cap], .slice A na ca] W fun en w'' => en = .returned (.int .i64 e0) ∧ Below W.heap.size W w'') := Lib.hid fun W h1 h2 => by rw [← he0]; exact hfa W A na ca vs h1 h2 hnv (by omega)
  have HNV := Lib.hid hnv
  have HRC := Lib.hid hrc
  have eg' := eg
  have hbfl := hfl.blk.lt
  have HQ0 : Hid (∀ k, q.ownBlock = some k → base ≤ k ∧ k < w'.heap.size) := Lib.hid fun k hk => by obtain ⟨xs, ho, _⟩ := hfl.own; exact own_gE ho hk
  have HR := Lib.hid hrep; have HFL := Lib.hid hfl; have HP := Lib.hid hpa; have HVS := Lib.hid hvs
  obtain ⟨hbb1, hbb2⟩ := hrep.h
  obtain ⟨c, hcd⟩ : ∃ c : Nat → Nat, (fun i => one (ar vs i)) = c := ⟨_, rfl⟩
  have HCN : Hid (∀ i, one (ar vs i) = c i) := Lib.hid fun i => congrFun hcd i
  have hc1 : ∀ i, c i ≤ 1 := fun i => by rw [← HCN.out i]; exact one_le _
  have HC1 := Lib.hid hc1
  rw [hcd] at hnc ⊢
  clear hcd hc1
  rw [he0] at hnc ⊢
  obtain ⟨k, num, nm, A0, xn, cap⟩ := x
  obtain ⟨mk, mnum, mnm, mA, mn, mcap⟩ := m
  dsimp only at *
  clear hb hkid hfa hrep hfl hpa hvs he0 hrc hnv eg
  have hkk : ((k == 50) = true ∧ (k == 51) = false) ∨ ((k == 50) = false ∧ (k == 51) = true) := by rcases hk with h | h <;> subst h <;> simp
  clear hk
  rcases hkk with ⟨k50, k51⟩ | ⟨k50, k51⟩
  all_goals
    go_enter Tryz.func33, Tryz.ntmps33
    go_upto_region 1 with fail
    refine wp_nameE ?_
    intro w1 hw1
    have hb1 : Below w'.heap.size w' w1 := by rw [hw1]; exact (by go_grown)
    have K5 : Blk w1 w'.heap.size 28 #[.slice V nv cv, .slice Q nq cq, .int .u8 mk, .int .i64 mnum, .string mnm, .slice mA mn mcap] := by rw [hw1]; exact blkA
    have K6 : Blk w1 (w'.heap.size + 1) 26 #[.int .u8 k, .int .i64 num, .string nm, .slice A0 xn cap] := by rw [hw1]; exact Blk.new' (by simp) _ _
    have HK5 := Lib.hid K5; have HK6 := Lib.hid K6; have HB1 := Lib.hid hb1
    have hz1 : w'.heap.size + 1 < w1.heap.size := K6.lt
    have HW1 := Lib.hid (HB.out.trans (hb1.mono hBw'))
    have HR1 := Lib.hid (HR.out.next hb1); have HFL1 := Lib.hid (HFL.out.next hb1); have HP1 := Lib.hid (Dn.next HP.out hb1); have HVS1 := Lib.hid (dn_next HVS.out hb1)
    clear hw1 hb1 K5 K6
    have hno5 : ∀ kk, kk = w'.heap.size ∨ kk = w'.heap.size + 1 → ¬ (kk = bf ∨ q.ownBlock = some kk) := fun kk hk ho => by
      rcases ho with ho | ho
      · omega
      · have := HQ0.out _ ho; omega
    have HNO := Lib.hid hno5
    clear hno5
    refine wp_region_held_drew (S := fun W => Fr (fun kk => kk = bf ∨ q.ownBlock = some kk) w1 W) (by kernel_rfl) ((Fr.refl _ _).drew) (fun hH => ?_)
    refine wpAnyH_atN ?_
    intro wa hwa
    have hX : Below w1.heap.size w1 wa := by rw [hwa]; exact (Below.refl _ _).drew
    replace hH : Fr (fun kk => kk = bf ∨ q.ownBlock = some kk) w1 wa := Fr.of hX
    clear hwa
    refine tkQ 0 (v := ?_) rfl hH ?_
    (try simp only [PU, Act.put])
    refine tkQ 1 (v := ?_) rfl hH ?_
    (try simp only [PU, Act.put])
    refine tkQ 2 (v := ?_) rfl hH ?_
    (try simp only [PU, Act.put])
    refine tkK 3 (v := ?_) rfl ?hy hH ?_
    case hy => (intro w9_ hS9; have t := (hS9.blk HK6.out (HNO.out _ (.inr rfl))).cell; clear hS9; go_simp; try with_reducible rfl)
    (try simp only [PU, Act.put])
    refine tkK 4 (v := ?_) rfl ?hy hH ?_
    case hy => (intro w9_ hS9; have t := (hS9.blk HK5.out (HNO.out _ (.inl rfl))).cell; clear hS9; go_simp; try with_reducible rfl)
    (try simp only [PU, Act.put])
    refine tkK 5 (v := ?_) rfl ?hy hH ?_
    case hy => (intro w9_ hS9; have t := (hS9.blk HK6.out (HNO.out _ (.inr rfl))).cell; clear hS9; go_simp; try with_reducible rfl)
    (try simp only [PU, Act.put])
    refine tkQ 6 (v := ?_) rfl hH ?_
    (try simp only [PU, Act.put])
    refine nxH 7 (by kernel_rfl) rfl (fun K hK => ?_)
    go_simp
    refine (HFA.out _ (HW1.out.trans (hX.mono (by omega))) (sl_vs (dn_next HVS1.out hX) HNV.out (fun kk hk => hk.1))).mono ?_
    rintro en wb ⟨rfl, hbn⟩
    replace hX := hX.next hbn
    clear hbn
    refine hK.out _ _ (Fr.of hX) (fun hH => ?_)
    clear hK
    (try simp only [PU, Act.put])
    refine nxH 8 (by kernel_rfl) rfl (fun K hK => ?_)
    go_simp
    refine (HRC.out wb bf b4 b1 base q n (HR1.out.next hX) (HFL1.out.next hX) (by omega) e0 nm _ l hl (Sl.keep HP1.out (D' := fun k => k < wb.heap.size) (fun b o hd => hX.cell (p := ⟨b, o, none⟩) hd.1) (fun k hk => Nat.lt_of_lt_of_le hk.1 hX.size))).mono ?_
    rintro en w3 ⟨rfl, q3, hf3, he3⟩
    refine hK.out _ _ ((Fr.of hX).trans he3.1) (fun hH => ?_)
    clear hK
    (try simp only [PU, Act.put])
    refine wpAnyH_done (by kernel_rfl) ?_ _
    have HE3 := Lib.hid (Emt.pre hX he3); have HF3 := Lib.hid hf3
    clear hX hH hf3 he3
    -- behind the report
    have HK6b := Lib.hid (HE3.out.1.blk HK6.out (HNO.out _ (.inr rfl)))
    clear HFA
    obtain ⟨z_1, T_1, F_1⟩ := HK6b.out.open_
    go_wp2_with fail
    clear T_1 z_1 F_1
    go_loopw [34] (fun v34 wr => ∃ (j : Nat) (qc : Value), j ≤ xn ∧ v34 = .int .i64 j ∧ Flt wr bf base qc (n + one e0 + sumTo c j) ∧ Emt bf w1 wr q qc) (fun v _ => xn - (intOf v).toNat)
    case atStart => exact ⟨0, q3, Nat.zero_le _, rfl, HF3.out, HE3.out⟩
    case round =>
      obtain ⟨j, qc, hj, rfl, hfc, hec⟩ := hrel
      have HFC := Lib.hid hfc; have HEM := Lib.hid hec
      have HKPr := Lib.hid (hec.1.blk HK5.out (HNO.out _ (.inl rfl))); have HKNr := Lib.hid (hec.1.blk HK6.out (HNO.out _ (.inr rfl)))
      have HBr : Hid (Below B w wr) := Lib.hid (HW1.out.trans (hec.1.below (by omega) (fun kk hk => by rcases hk with e | e; omega; have := (HQ0.out _ e).1; omega)))
      have HRr := Lib.hid (HR1.out.emt hec); have HPr := Lib.hid (Dn.emt HP1.out hec); have HVSr := Lib.hid (dn_emt HVS1.out hec)
      have HQL : Hid (∀ kk, qc.ownBlock = some kk → kk < wr.heap.size) := Lib.hid fun kk hk => by obtain ⟨xs, ho, _⟩ := HFC.out.own; exact (own_gE ho hk).2
      have HNr : Hid (∀ kk, kk = w'.heap.size ∨ kk = w'.heap.size + 1 → ¬ (kk = bf ∨ qc.ownBlock = some kk)) := Lib.hid fun kk hk ho => by
        rcases ho with ho | ho
        · omega
        · rcases HEM.out.2 with e | e
          · exact HNO.out kk hk (.inr (by rw [← e]; exact ho))
          · have := e kk ho; omega
      have hzr := hec.1.size
      clear hfc hec
      by_cases hjn : j < xn
      · obtain ⟨y, hky, hoy⟩ := HKID.out j hjn
        obtain ⟨g1, o, hA2, hgB, c0, c1', c2, c3⟩ := hky.cells HBr.out
        simp only at hA2
        subst hA2
        have HOY := Lib.hid hoy
        have j0 : (0 : Int) ≤ (j : Int) := by omega
        have j1 : (j : Int) < (xn : Int) := by omega
        have hsj := sumTo_le (s := c) (show j + 1 ≤ xn from hjn)
        simp only [sumTo] at hsj
        clear hky hoy
        go_upto_region 6 with fail
        refine wp_nameE ?_
        intro w5 hw5
        have hb5 : Below wr.heap.size wr w5 := by rw [hw5]; exact (by go_grown)
        have KY : Blk w5 wr.heap.size 26 #[.int .u8 y.k, .int .i64 y.num, .string y.nm, .slice y.A y.n y.cap] := by rw [hw5]; exact blkA
        have HKY := Lib.hid KY; have HX5 := Lib.hid hb5
        have HB5 := Lib.hid (HBr.out.trans (hb5.mono (by omega)))
        have HKP5 := Lib.hid (HKPr.out.next hb5); have HKN5 := Lib.hid (HKNr.out.next hb5)
        have HR5 := Lib.hid (HRr.out.next hb5); have HFL5 := Lib.hid (HFC.out.next hb5); have HP5 := Lib.hid (Dn.next HPr.out hb5); have HVS5 := Lib.hid (dn_next HVSr.out hb5)
        have hz5 : wr.heap.size < w5.heap.size := KY.lt
        have HNQ : Hid (∀ kk, kk = w'.heap.size ∨ kk = w'.heap.size + 1 ∨ kk = wr.heap.size → ¬ (kk = bf ∨ qc.ownBlock = some kk)) := Lib.hid fun kk hk ho => by
          rcases hk with hk | hk | hk
          · exact HNr.out kk (.inl hk) ho
          · exact HNr.out kk (.inr hk) ho
          · rcases ho with ho | ho
            · omega
            · have := HQL.out _ ho; omega
        replace HQL : Hid (∀ kk, qc.ownBlock = some kk → kk < w5.heap.size) := Lib.hid fun kk hk => by have := HQL.out kk hk; omega
        have hbf5 : bf < w5.heap.size := by omega
        clear hw5 c0 c1' c2 c3 hb5 KY HKPr HKNr HRr HPr HBr HFC HNr HVSr
        obtain ⟨ej, hej⟩ : ∃ e, ar vs j = e := ⟨_, rfl⟩
        have HAJ := Lib.hid hej
        have HEJ : Hid (one ej = c j) := Lib.hid (by rw [← hej]; exact HCN.out j)
        clear hej
        refine wp_region_held_drew (S := fun W => Fr (fun kk => kk = bf ∨ qc.ownBlock = some kk) w5 W) (by kernel_rfl) ((Fr.refl _ _).drew) (fun hH => ?_)
        refine wpAnyH_atN ?_
        intro wa hwa
        have hX : Below w5.heap.size w5 wa := by rw [hwa]; exact (Below.refl _ _).drew
        replace hH : Fr (fun kk => kk = bf ∨ qc.ownBlock = some kk) w5 wa := Fr.of hX
        clear hwa
        refine tkQ 0 (v := ?_) rfl hH ?_
        (try simp only [PU, Act.put])
        refine tkQ 1 (v := ?_) rfl hH ?_
        (try simp only [PU, Act.put])
        refine tkQ 2 (v := ?_) rfl hH ?_
        (try simp only [PU, Act.put])
        refine tkQ 4 (v := ?_) rfl hH ?_
        (try simp only [PU, Act.put])
        refine tkK 5 (v := ?_) rfl ?hy hH ?_
        case hy => (intro w9_ hS9; have t := (hS9.blk HKY.out (HNQ.out _ (.inr (.inr rfl)))).cell; clear hS9; go_simp; try with_reducible rfl)
        (try simp only [PU, Act.put])
        refine tkK 6 (v := ?_) rfl ?hy hH ?_
        case hy => (intro w9_ hS9; have t := (hS9.blk HKP5.out (HNQ.out _ (.inl rfl))).cell; clear hS9; go_simp; try with_reducible rfl)
        (try simp only [PU, Act.put])
        refine tkK 7 (v := ?_) rfl ?hy hH ?_
        case hy => (intro w9_ hS9; have t := (hS9.blk HKN5.out (HNQ.out _ (.inr (.inl rfl)))).cell; clear hS9; go_simp; try with_reducible rfl)
        (try simp only [PU, Act.put])
        refine tkQ 8 (v := ?_) rfl hH ?_
        (try simp only [PU, Act.put])
        refine tkQ 9 (v := ?_) rfl hH ?_
        (try simp only [PU, Act.put])
        refine nxH 3 (by kernel_rfl) rfl (fun K hK => ?_)
        go_simp
        refine (e_child _ (Dn.next HP5.out hX) (fun k hk => hk.1) (by omega) (j : Int)).mono ?_
        rintro en wb ⟨v_c, rfl, hown, hbn⟩
        have hyc : w5.heap.size ≤ wa.heap.size := hX.size
        obtain ⟨A_c, c_c, rfl⟩ := own_form hown
        have HSL : Hid (Sl wb (Dn bf qc wb) 1 (.slice A_c (l.length + 1) c_c) (l ++ [(j : Int)]).length (intCells (l ++ [(j : Int)]))) := Lib.hid (by rw [show (l ++ [(j : Int)]).length = l.length + 1 by simp]; exact (Sl.of_own hown).keep (fun _ _ _ => rfl) (fun kk hk => ⟨hk.2, by have h2 := HQL.out; have h3 := hk.1; rintro (e | e); omega; have := h2 _ e; omega⟩))
        replace hX := hX.next hbn
        clear hown hbn hyc
        refine hK.out _ _ (Fr.of hX) (fun hH => ?_)
        clear hK
        (try simp only [PU, Act.put])
        refine nxH 10 (by kernel_rfl) rfl (fun K hK => ?_)
        go_simp
        refine (HOY.out wb A na ca vs (HB5.out.trans (hX.mono (by omega))) (sl_vs (dn_next HVS5.out hX) HNV.out (fun kk hk => hk.1)) HNV.out (by omega)).mono ?_
        rintro en wc ⟨rfl, hbn⟩
        rw [HAJ.out]
        replace HSL := Lib.hid (dn_next HSL.out hbn)
        replace hX := hX.next hbn
        clear hbn
        refine hK.out _ _ (Fr.of hX) (fun hH => ?_)
        clear hK
        (try simp only [PU, Act.put])
        refine nxH 11 (by kernel_rfl) rfl (fun K hK => ?_)
        go_simp
        refine (HRC.out wc bf b4 b1 base qc _ (HR5.out.next hX) (HFL5.out.next hX) (by omega) ej y.nm _ (l ++ [(j : Int)]) (by simp; omega) (Sl.keep HSL.out (D' := fun k => k < wc.heap.size) (fun b o hd => rfl) (fun k hk => hk.1))).mono ?_
        rintro en w8 ⟨rfl, q8, hf8, he8⟩
        rw [HEJ.out] at hf8
        refine hK.out _ _ ((Fr.of hX).trans he8.1) (fun hH => ?_)
        clear hK
        (try simp only [PU, Act.put])
        refine wpAnyH_done (by kernel_rfl) ?_ _
        have HF8 := Lib.hid hf8; have HE8 := Lib.hid (Emt.pre hX he8)
        clear hf8 he8 hX hH
        go_wp2_with fail
        exact ⟨⟨j + 1, q8, by omega, by go_num, by rw [show sumTo c (j + 1) = sumTo c j + c j from rfl, ← Nat.add_assoc]; exact HF8.out, HEM.out.trans (Emt.pre HX5.out HE8.out)⟩, by simp [intOf]; omega⟩
      · obtain rfl : j = xn := by omega
        go_wp2_with fail
        refine bodyPost_ret_by (results_none rfl _ _ _) rfl ?_
        exact ⟨rfl, qc, by rw [← Nat.add_assoc]; exact HFC.out, Emt.pre HB1.out HEM.out⟩
end Go.Proofs.YtakfdnnlhjhcfaaGreatDoor
namespace Bk
open Go Go.RowKit Go.Proofs.YtakfdnnlhjhcfaaGreatDoor
theorem limTo_le {f : Nat → Nat → Bool × Nat} : ∀ {n lf c : Nat}, (∀ i, i < n → ∀ lf c, f i lf = (true, c) → c ≤ lf) → limTo f n lf = (true, c) → c ≤ lf
  | 0, lf, c, _, h => by simp only [limTo, Prod.mk.injEq] at h; omega
  | n + 1, lf, c, hf, h => by
    simp only [limTo] at h
    split at h
    · rename_i h1
      have h2 := limTo_le (n := n) (fun i hi => hf i (by omega)) (show limTo f n lf = (true, (limTo f n lf).2) by rw [← h1])
      have h3 := hf n (by omega) _ _ h
      omega
    · rename_i h1
      rw [h] at h1; exact absurd rfl h1
theorem limTo_atL {f : Nat → Nat → Bool × Nat} : ∀ {n lf c : Nat}, (∀ i, i < n → ∀ lf c, f i lf = (true, c) → c ≤ lf) → limTo f n lf = (true, c) → ∀ i, i < n → ∃ lf' c', lf' ≤ lf ∧ f i lf' = (true, c')
  | 0, _, _, _, _, i, hi => absurd hi (Nat.not_lt_zero _)
  | n + 1, lf, c, hf, h, i, hi => by
    simp only [limTo] at h
    split at h
    · rename_i h1
      have h0 : limTo f n lf = (true, (limTo f n lf).2) := by rw [← h1]
      rcases Nat.lt_succ_iff_lt_or_eq.1 hi with h2 | rfl
      · exact limTo_atL (fun i hi => hf i (by omega)) h0 i h2
      · exact ⟨_, _, limTo_le (fun i hi => hf i (by omega)) h0, h⟩
    · rename_i h1
      rw [h] at h1; exact absurd rfl h1
def dupE (vs : List Vr) (s : ByteArray) : Int := if (findV s vs).isSome then 22 else 0
def dupC (vs : List Vr) (j : Nat) : Nat := match vs[j]? with
  | none => 0
  | some v => one (dupE (vs.take j) v.nm)
theorem dupC_le (vs : List Vr) (j : Nat) : dupC vs j ≤ 1 := by
  unfold dupC; split
  · omega
  · exact one_le _
noncomputable def prcC (w : World) (B d : Nat) (ps : List Pc) (i : Nat) : Nat := match ps[i]? with
  | none => 0
  | some p => one (if procI p.nm ps < (i : Int) then 22 else 0) + sumTo (dupC p.vs) p.nv + cntB w B ps d p.body p.vs
noncomputable def cntP (w : World) (B d : Nat) (vs : List Vr) (ps : List Pc) (m : Nd) : Nat := sumTo (dupC vs) vs.length + sumTo (prcC w B d ps) ps.length + cntB w B ps d m vs
theorem sumTo_bd {g : Nat → Nat} {b : Nat} : ∀ {n : Nat}, (∀ i, i < n → g i ≤ b) → sumTo g n ≤ n * b
  | 0, _ => by simp [sumTo]
  | n + 1, h => by
    have h1 := sumTo_bd (n := n) fun i hi => h i (by omega)
    have h2 := h n (by omega)
    simp only [sumTo]; rw [Nat.succ_mul]; omega
theorem bodyB_of {w : World} {B d : Nat} {m : Nd} (h : bodyB w B d m = true) : (∃ c, limF w B d m 80 2000 = (true, c)) ∧ blB w B d m = true := by
  unfold bodyB at h
  simp only [Bool.and_eq_true] at h
  exact ⟨⟨(limF w B d m 80 2000).2, by rw [← h.1]⟩, h.2⟩
theorem procB_of {w : World} {B d : Nat} {p : Pc} (h : procB w B d p = true) : nameB p.nm = true ∧ p.nv ≤ 8 ∧ declsB p.vs = true ∧ bodyB w B d p.body = true := by
  unfold procB at h
  simp only [Bool.and_eq_true, decide_eq_true_eq] at h
  exact ⟨h.1, h.2.1, h.2.2.1, h.2.2.2⟩
end Bk
namespace Go.Proofs.YtakfdnnlhjhcfaaGreatDoor
open Go.RowKit Bk
theorem validB_of {w : World} {B d : Nat} {vs : List Vr} {ps : List Pc} {m : Nd} (h : validB w B d vs ps m = true) : vs.length ≤ 32 ∧ ps.length ≤ 64 ∧ declsB vs = true ∧ (∀ p ∈ ps, procB w B d p = true) ∧ bodyB w B d m = true := by
  unfold validB at h
  simp only [Bool.and_eq_true, decide_eq_true_eq, List.all_eq_true] at h
  exact ⟨h.1, h.2.1, h.2.2.1, h.2.2.2.1, h.2.2.2.2⟩
theorem cntP_le {w : World} {B d : Nat} {vs : List Vr} {ps : List Pc} {m : Nd} (h : validB w B d vs ps m = true) : sumTo (dupC vs) vs.length ≤ 32 ∧ sumTo (prcC w B d ps) ps.length ≤ 200000 ∧ (∀ i, i < ps.length → sumTo (prcC w B d ps) i + prcC w B d ps i ≤ 200000) ∧ (∀ i, prcC w B d ps i ≤ 2009) ∧ ∀ vs, cntB w B ps d m vs ≤ 2000 := by
  obtain ⟨h1, h2, _, h3, h4⟩ := validB_of h
  have a1 := sumTo_bd (g := dupC vs) (b := 1) (n := vs.length) fun i _ => dupC_le _ _
  have a2 : ∀ i, prcC w B d ps i ≤ 2009 := fun i => by
    unfold prcC
    split
    · omega
    · rename_i p hp
      obtain ⟨_, q1, _, q2⟩ := procB_of (h3 p (List.mem_of_getElem? hp))
      obtain ⟨⟨c, q3⟩, _⟩ := bodyB_of q2
      have q4 := (cntB_lim ps d p.body p.vs _ _ _ q3).1
      have q5 := sumTo_bd (g := dupC p.vs) (b := 1) (n := p.nv) fun i _ => dupC_le _ _
      have q6 := one_le (if procI p.nm ps < (i : Int) then 22 else 0)
      omega
  have a3 := sumTo_bd (g := prcC w B d ps) (b := 2009) (n := ps.length) fun i _ => a2 i
  obtain ⟨⟨c, q3⟩, _⟩ := bodyB_of h4
  have a4 : ps.length * 2009 ≤ 64 * 2009 := Nat.mul_le_mul_right _ h2
  exact ⟨by omega, by omega, fun i hi => by have := sumTo_le (s := prcC w B d ps) (show i + 1 ≤ ps.length from hi); simp only [sumTo] at this; omega, a2, fun vs => by have := (cntB_lim ps d m vs _ _ _ q3).1; omega⟩
theorem e_visitX {w : World} {B : Nat} (hBw : B ≤ w.heap.size) (V : Option Addr) (nv cv : Nat) (Q : Option Addr) (nq cq : Nat) {dq : Nat} (ps : List Pc) (hq : PrsAt w B dq Q ps) (hnq : ps.length = nq) (hnq2 : nq ≤ 17592186043904) (m : Nd) {g : FuncId} {t1 : TypeId} {c1 : Array Value} (eg : ∀ (args : Array Value) (w : World), (callFunc g args).run Tryz.prog w = .ok (.enter g args) w) (hrc : RepC g t1 c1) :
    ∀ (d : Nat) (x : Nd) (dp lf c : Nat), KV w B d x → limF w B d x dp lf = (true, c) → lf ≤ 2000 → VisX w B g t1 c1 (.agg #[.slice V nv cv, .slice Q nq cq, .int .u8 m.k, .int .i64 m.num, .string m.nm, .slice m.A m.n m.cap]) x dp (fun vs => cntB w B ps d x vs)
  | 0, _, _, _, _, h, _, _ => h.elim
  | d + 1, x, dp, lf, c, hk, hl, hlf => by
    obtain ⟨h1, h2, h3⟩ := limF_at hl
    have hxn : x.n ≤ 17592186043904 := by
      have := limTo_sum (g := fun _ => 1) (fun i _ lf c h => by have := (cntB_lim ps d _ [] _ _ _ h).2; omega) h3
      have hs : ∀ n, sumTo (fun _ => 1) n = n := fun n => by induction n with
        | zero => rfl
        | succ n ih => simp only [sumTo, ih]
      rw [hs] at this; omega
    obtain ⟨dp, rfl⟩ : ∃ k, dp = k + 1 := ⟨dp - 1, by omega⟩
    have hfa : ∀ (W : World) (A : Option Addr) (na ca : Nat) (vs : List Vr), Below B w W → VsAt W W.heap.size A vs → vs.length = na → na ≤ 1000 → Calls Tryz.prog 58 #[.agg #[.slice V nv cv, .slice Q nq cq, .int .u8 m.k, .int .i64 m.num, .string m.nm, .slice m.A m.n m.cap], .agg #[.int .u8 x.k, .int .i64 x.num, .string x.nm, .slice x.A x.n x.cap], .slice A na ca] W fun en w'' => en = .returned (.int .i64 (faultX vs ps x)) ∧ Below W.heap.size W w'' := fun W A na ca vs hW hv hn hn2 => e_faultX hBw V nv cv Q nq cq ps hq hnq hnq2 m (w0 := W) (B0 := W.heap.size) (Nat.le_refl _) A na ca vs hv hn (by omega) x hxn W hW (Below.refl _ _)
    by_cases hc : x.k = 50 ∨ x.k = 51
    · have h := e_visitA hBw V nv cv Q nq cq m eg hrc x dp (fun vs => faultX vs ps x) hfa hxn hc (fun vs i => argX vs ps x.nm x.n i (kidN w B x i).nm) (fun i hi => ⟨_, (kidN_kid hk hi).1, fun W A na ca vs hW hv hn hn2 => e_argX hBw V nv cv Q nq cq ps hq hnq hnq2 m (w0 := W) (B0 := W.heap.size) (Nat.le_refl _) A na ca vs hv hn (by omega) x _ hxn i hi (kidN_kid hk hi).1 W hW (Below.refl _ _)⟩)
      have e : (fun vs => cntB w B ps (d + 1) x vs) = (fun vs => one (faultX vs ps x) + sumTo (fun i => one (argX vs ps x.nm x.n i (kidN w B x i).nm)) x.n) := by funext vs; rw [cntB, if_pos hc]
      rw [e]; exact h
    · have h := e_visitK hBw V nv cv Q nq cq m eg hrc x dp (fun vs => faultX vs ps x) hfa hxn (by simp; omega) (by simp; omega) (fun i vs => cntB w B ps d (kidN w B x i) vs) (fun i hi => by
        obtain ⟨lf', c', h4, h5⟩ := limTo_atL (fun i _ lf c h => by have := (cntB_lim ps d _ [] _ _ _ h).2; omega) h3 i hi
        exact ⟨_, (kidN_kid hk hi).1, e_visitX hBw V nv cv Q nq cq ps hq hnq hnq2 m eg hrc d _ dp lf' c' (kidN_kid hk hi).2 h5 (by omega)⟩)
      have e : (fun vs => cntB w B ps (d + 1) x vs) = (fun vs => one (faultX vs ps x) + sumTo (fun i => cntB w B ps d (kidN w B x i) (innerX x i vs)) x.n) := by funext vs; rw [cntB, if_neg hc]
      rw [e]; exact h
end Go.Proofs.YtakfdnnlhjhcfaaGreatDoor
