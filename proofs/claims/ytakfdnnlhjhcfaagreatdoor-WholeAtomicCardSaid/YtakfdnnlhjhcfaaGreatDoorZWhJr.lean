/- scope.Check, exactly. Printed by gen_whjo.py. -/
import Derived.Test.YtakfdnnlhjhcfaaGreatDoorM23
import Derived.Great.BuildSlice
set_option linter.unusedVariables false
set_option linter.unusedSimpArgs false
set_option maxRecDepth 100000
set_option maxHeartbeats 8000000
set_option maxRecDepth 100000
set_option maxHeartbeats 4000000
namespace Go.Proofs.YtakfdnnlhjhcfaaGreatDoor
open Go.RowKit Bk
theorem sl_blk1L {w : World} {g : Nat} {t : TypeId} {u : Value} (h : Blk w g t #[u]) : Sl w (fun k => k < w.heap.size) 1 (.slice (some ⟨g, 0, none⟩) 1 1) 1 [u] :=
  ⟨_, 1, rfl, Nat.le_refl _, (fun e => by cases e), rfl, fun _ => ⟨g, 0, rfl, h.lt, fun j v hv => by
    match j, hv with
    | 0, hv => simp at hv; subst hv; exact h.cell 0⟩⟩
theorem Fr.setRowE' (w : World) (g : Nat) (cs : Array Value) : Fr (· = g) w (w.setRow g cs) := ⟨rfl, rfl, rfl, by simp, fun k _ hk => setRow_other w g k cs hk⟩
theorem Flt.no {w : World} {bf base kk n : Nat} {q : Value} (h : Flt w bf base q n) (h1 : kk ≠ bf) (h2 : kk < base ∨ w.heap.size ≤ kk) : ¬ (kk = bf ∨ q.ownBlock = some kk) := fun ho => by
  obtain ⟨xs, h3, _⟩ := h.own
  rcases ho with e | e
  · exact h1 e
  · have := own_gE h3 e; omega
theorem vs_take {w : World} {B : Nat} {A : Option Addr} {vs : List Vr} (h : VsAt w B A vs) (n : Nat) : VsAt w B A (vs.take n) := fun i v hi => h i v (by rw [List.getElem?_take] at hi; split at hi; exact hi; cases hi)
theorem vs_dn {w w' : World} {B bf base n : Nat} {q : Value} {A : Option Addr} {nv cv : Nat} {vs : List Vr} (h : VsAt w B A vs) (hn : vs.length = nv) (hc : nv ≤ cv) (hA : A = none → cv = 0) (hb : Below B w w') (hBw : B ≤ w'.heap.size) (hf : Flt w' bf base q n) (h1 : B ≤ bf) (h2 : B ≤ base) : Sl w' (Dn bf q w') 3 (.slice A nv cv) nv (varCells vs) :=
  (vs_sl (h.next hb) hn hc hA).keep (fun _ _ _ => rfl) (fun k hk => ⟨Nat.lt_of_lt_of_le hk hBw, hf.no (by omega) (.inl (by omega))⟩)
theorem e_CheckT {w : World} {B d : Nat} (hBw : B ≤ w.heap.size) (V : Option Addr) (nv cv : Nat) (vs : List Vr) (hv : VsAt w B V vs) (hnv : vs.length = nv) (hnv2 : nv ≤ 17592186043904) (hcv : nv ≤ cv) (hVn : V = none → cv = 0) (Q : Option Addr) (nq cq : Nat) (ps : List Pc) (hq : PrsAt w B d Q ps) (hnq : ps.length = nq) (hnq2 : nq ≤ 17592186043904) (hpn : ∀ p ∈ ps, p.V = none → p.cv = 0) (m : Nd) (hm : KV w B d m) (hval : validB w B d vs ps m = true) (w' : World) (hb : Below B w w') :
    Calls Tryz.prog 17 #[.agg #[.slice V nv cv, .slice Q nq cq, .int .u8 m.k, .int .i64 m.num, .string m.nm, .slice m.A m.n m.cap]] w' fun en w'' => (∃ A c, en = .returned (.slice A (cntP w B d vs ps m) c)) ∧ Below w'.heap.size w' w'' := by
  have HB := Lib.hid hb; have HV := Lib.hid hv; have HNV := Lib.hid hnv; have HNQ0 := Lib.hid hnq; have HQ := Lib.hid hq
  have HVAL : Hid (∀ W, Below B w W → Calls Tryz.prog 16 #[.agg #[.slice V nv cv, .slice Q nq cq, .int .u8 m.k, .int .i64 m.num, .string m.nm, .slice m.A m.n m.cap]] W fun en w'' => en = .returned (.bool true) ∧ Below W.heap.size W w'') := Lib.hid fun W hW => (e_ValidP hBw V nv cv vs hv hnv hnv2 Q nq cq ps hq hnq hnq2 m hm W hW).mono fun en w'' h => ⟨by rw [h.1, hval], h.2⟩
  have hBw' : B ≤ w'.heap.size := by have := hb.size; omega
  have HFR : Hid (∀ j name, j ≤ nv → ∀ W, Below B w W → Calls Tryz.prog 31 #[.slice V j cv, .string name] W fun en w'' => en = .returned (.int .i64 (dupE (vs.take j) name)) ∧ Below W.heap.size W w'') := Lib.hid fun j name hj W hW => e_fresh hBw V j cv (vs.take j) (vs_take hv j) (by rw [List.length_take]; omega) (by omega) name W hW
  have HPF : Hid (∀ (i : Nat) (p : Pc), ps[i]? = some p → ∀ j name, j ≤ p.nv → ∀ W, Below B w W → Calls Tryz.prog 31 #[.slice p.V j p.cv, .string name] W fun en w'' => en = .returned (.int .i64 (dupE (p.vs.take j) name)) ∧ Below W.heap.size W w'') := Lib.hid fun i p hp j name hj W hW => by
    obtain ⟨_, h1, h2, _, h4, _⟩ := hq i p hp
    exact e_fresh hBw p.V j p.cv (p.vs.take j) (vs_take h1 j) (by rw [List.length_take]; omega) (by omega) name W hW
  have HPI : Hid (∀ nm W, Below B w W → Calls Tryz.prog 32 #[.agg #[.slice V nv cv, .slice Q nq cq, .int .u8 m.k, .int .i64 m.num, .string m.nm, .slice m.A m.n m.cap], .string nm] W fun e w'' => e = .returned (.int .i64 (procI nm ps)) ∧ Below W.heap.size W w'') := Lib.hid fun nm W hW => e_Proc hBw V nv cv Q nq cq ps hq hnq hnq2 m nm W hW
  have hvo := validB_of hval
  have hle := cntP_le hval
  have HVM : Hid (VisX w B 35 28 #[.slice V nv cv, .slice Q nq cq, .int .u8 m.k, .int .i64 m.num, .string m.nm, .slice m.A m.n m.cap] (.agg #[.slice V nv cv, .slice Q nq cq, .int .u8 m.k, .int .i64 m.num, .string m.nm, .slice m.A m.n m.cap]) m 80 (fun vs => cntB w B ps d m vs)) := Lib.hid (by
    obtain ⟨⟨c, h1⟩, _⟩ := bodyB_of hvo.2.2.2.2
    exact e_visitX hBw V nv cv Q nq cq ps hq hnq hnq2 m (fun _ _ => rfl) (e_rep3 m) d m 80 2000 c hm h1 (by omega))
  have HVP : Hid (∀ (i : Nat) (p : Pc), ps[i]? = some p → ∀ j : Int, VisX w B 34 3 #[.int .i64 j] (.agg #[.slice V nv cv, .slice Q nq cq, .int .u8 m.k, .int .i64 m.num, .string m.nm, .slice m.A m.n m.cap]) p.body 80 (fun vs => cntB w B ps d p.body vs)) := Lib.hid fun i p hp j => by
    obtain ⟨⟨c, h1⟩, _⟩ := bodyB_of (procB_of (hvo.2.2.2.1 p (List.mem_of_getElem? hp))).2.2.2
    exact e_visitX hBw V nv cv Q nq cq ps hq hnq hnq2 m (fun _ _ => rfl) (e_rep2 j) d p.body 80 2000 c (hq i p hp).2.2.2.2.2 h1 (by omega)
  have HPV : Hid (∀ (i : Nat) (p : Pc), ps[i]? = some p → p.V = none → p.cv = 0) := Lib.hid fun i p hp => hpn p (List.mem_of_getElem? hp)
  have HP8 : Hid (∀ (i : Nat) (p : Pc), ps[i]? = some p → p.nv ≤ 8) := Lib.hid fun i p hp => (procB_of (hvo.2.2.2.1 p (List.mem_of_getElem? hp))).2.1
  have HCA0 : Hid (∀ (j : Nat) (v : Vr), vs[j]? = some v → one (dupE (vs.take j) v.nm) = dupC vs j) := Lib.hid fun j v h => by unfold dupC; rw [h]
  have HCP0 : Hid (∀ (i : Nat) (p : Pc), ps[i]? = some p → prcC w B d ps i = one (if procI p.nm ps < (i : Int) then 22 else 0) + sumTo (dupC p.vs) p.nv + cntB w B ps d p.body p.vs) := Lib.hid fun i p h => by unfold prcC; rw [h]
  have hnv32 : nv ≤ 32 := by have := hvo.1; omega
  have hnq64 : nq ≤ 64 := by have := hvo.2.1; omega
  unfold cntP
  obtain ⟨l1, l2, l3, l4, l5⟩ := hle
  replace l5 := l5 vs
  rw [hnv] at l1 ⊢
  rw [hnq] at l2 l3 ⊢
  obtain ⟨cA, hcA⟩ : ∃ f, dupC vs = f := ⟨_, rfl⟩
  obtain ⟨cP, hcP⟩ : ∃ f, prcC w B d ps = f := ⟨_, rfl⟩
  obtain ⟨cM, hcM⟩ : ∃ f, cntB w B ps d m vs = f := ⟨_, rfl⟩
  rw [hcA] at l1 HCA0 ⊢
  rw [hcP] at l2 l3 l4 HCP0 ⊢
  rw [hcM] at l5 ⊢
  obtain ⟨cT, hcT⟩ : ∃ c, sumTo cA nv = c := ⟨_, rfl⟩
  obtain ⟨cU, hcU⟩ : ∃ c, sumTo cP nq = c := ⟨_, rfl⟩
  rw [hcT] at l1 ⊢
  rw [hcU] at l2 ⊢
  have HCT := Lib.hid hcT; have HCU := Lib.hid hcU
  have HCM := Lib.hid hcM; have HL3 := Lib.hid l3; have HL4 := Lib.hid l4
  have HVN := Lib.hid hVn
  clear hb hv hnv hq hnq hval hvo hcA hcP hcM hcT hcU l3 l4 hpn hm hVn
  obtain ⟨mk, mnum, mnm, mA, mn, mcap⟩ := m
  dsimp only at *
  go_enter Tryz.func17, Tryz.ntmps17
  go_upto_region 1 with fail
  refine wp_nameE ?_
  intro w1 hw1
  have hb1 : Below w'.heap.size w' w1 := by rw [hw1]; exact (by go_grown)
  have K1 : Blk w1 w'.heap.size 28 #[.slice V nv cv, .slice Q nq cq, .int .u8 mk, .int .i64 mnum, .string mnm, .slice mA mn mcap] := by rw [hw1]; exact blkA
  have HK1 := Lib.hid K1; have HB1 := Lib.hid hb1
  clear hw1 hb1
  obtain ⟨z_1, T_1, F_1⟩ := K1.open_
  clear K1
  go_wp2_with fail
  refine (HVAL.out w1 (HB.out.trans (HB1.out.mono hBw'))).mono ?_
  rintro en w2 ⟨rfl, hb2⟩
  have HB2 := Lib.hid (HB1.out.next hb2); have HK2 := Lib.hid (HK1.out.next hb2)
  clear T_1 z_1 F_1 hb2 HK1 HB1 HVAL
  have kn : Blk ((w2.alloc (.cells #[.slice none 0 0] 49)).alloc (.cells #[.nilFunc] 70)) (w2.heap.size + 1) 70 #[.nilFunc] := Blk.new' (by simp) _ _
  go_upto_region 5 with (refine wpList_store_one rfl 70 (.tmp 4) (.tmp 14) rfl (w2.heap.size + 1) rfl rfl 70 .nilFunc kn (by kernel_rfl) ?_; (try simp only [Act.put, Bk.PU]))
  refine wp_nameE ?_
  intro w3 hw3
  have hf3 : Fr (fun k => k = w2.heap.size + 1) ((w2.alloc (.cells #[.slice none 0 0] 49)).alloc (.cells #[.nilFunc] 70)) w3 := by rw [hw3]; exact Fr.setRowE' _ _ _
  have hb3 : Below w2.heap.size w2 w3 := Below.trans (((Below.refl _ _).alloc (Nat.le_refl _) _).alloc (by simp) _) (hf3.below (by simp; omega) (fun k hk => by omega))
  have KFL : Blk w3 w2.heap.size 49 #[.slice none 0 0] := hf3.blk ((Blk.new w2 _ _).next ((Below.refl _ _).alloc (Nat.le_refl _) _)) (by omega)
  have KRP : Blk w3 (w2.heap.size + 1) 70 #[.func (.func 29) #[] #[.pointer (some ⟨w2.heap.size, 0, none⟩)]] := by rw [hw3]; exact setRow_heap _ _ _ _ _ _ kn
  have hz3 : w2.heap.size + 1 < w3.heap.size := KRP.lt
  obtain ⟨bf, hbf⟩ : ∃ bf, w2.heap.size = bf := ⟨_, rfl⟩
  have HB3 := Lib.hid (HB2.out.next hb3)
  have HK3 := Lib.hid (HK2.out.next hb3)
  have hz2 : w'.heap.size < w2.heap.size := HK2.out.lt
  rw [hbf] at KFL KRP hz3 hz2 ⊢
  obtain ⟨base, hbase⟩ : ∃ base, w3.heap.size = base := ⟨_, rfl⟩
  have HFL3 : Hid (Flt w3 bf base (.slice none 0 0) 0) := Lib.hid ⟨KFL, [], World.ownsRow_nil _ _ _ _, fun u hu => by cases hu⟩
  have HR3 : Hid (RepX w3 bf (bf + 1) w'.heap.size base (.slice none 0 0) 28 #[.slice V nv cv, .slice Q nq cq, .int .u8 mk, .int .i64 mnum, .string mnm, .slice mA mn mcap]) := Lib.hid ⟨KRP, HK3.out, by omega, ⟨by omega, HFL3.out.no (by omega) (.inl (by omega))⟩, ⟨by omega, HFL3.out.no (by omega) (.inl (by omega))⟩⟩
  have HBL : Hid (bf < base ∧ base ≤ w3.heap.size) := Lib.hid (by omega)
  clear hw3 hb3 KFL KRP HK2 HB2 kn hf3
  obtain ⟨z_1, T_1, F_1⟩ := HK3.out.open_
  go_upto_region 6 with fail
  clear T_1 z_1 F_1
  go_loopw [18] (fun v18 wr => ∃ (j : Nat) (qc : Value), j ≤ nv ∧ v18 = .int .i64 j ∧ Flt wr bf base qc (sumTo cA j) ∧ Emt bf w3 wr (.slice none 0 0) qc) (fun v _ => nv - (intOf v).toNat)
  case atStart => exact ⟨0, _, Nat.zero_le _, rfl, HFL3.out, Emt.refl _ _ _⟩
  case round =>
    obtain ⟨j, qc, hj, rfl, hfc, hec⟩ := hrel
    have HFC := Lib.hid hfc; have HEM := Lib.hid hec
    have HRr := Lib.hid (HR3.out.emt hec)
    have HBr : Hid (Below B w wr) := Lib.hid ((HB.out.trans (HB3.out.mono hBw')).trans (hec.1.below (by omega) (fun kk hk => by rcases hk with e | e; omega; cases e)))
    have hzr := hec.1.size
    have hsj : sumTo cA j ≤ cT := by rw [← HCT.out]; exact sumTo_le hj
    clear hfc hec
    by_cases hjn : j < nv
    · obtain ⟨v, hvj⟩ : ∃ v, vs[j]? = some v := ⟨_, List.getElem?_eq_getElem (by have := HNV.out; omega)⟩
      obtain ⟨g, o, hA2, hgB, c0, c1, c2⟩ := (HV.out.next HBr.out) j v hvj
      subst hA2
      have HCJ := Lib.hid (HCA0.out j v hvj)
      obtain ⟨nm, k, len⟩ := v
      dsimp only at c0 c1 c2 HCJ
      have j0 : (0 : Int) ≤ (j : Int) := by omega
      have j1 : (j : Int) < (nv : Int) := by omega
      have j2 : j ≤ cv := by omega
      have HFS := Lib.hid (HFR.out j nm (by omega))
      obtain ⟨e1, he1⟩ : ∃ e, dupE (vs.take j) nm = e := ⟨_, rfl⟩
      rw [he1] at HFS HCJ
      have HE1 := HCJ
      clear hvj he1
      go_upto_region 8 with fail
      refine wp_nameE ?_
      intro w5 hw5
      have hb5 : Below wr.heap.size wr w5 := by rw [hw5]; exact (by go_grown)
      have KY : Blk w5 wr.heap.size 72 #[.string nm, .int .u8 k, .int .i64 len] := by rw [hw5]; exact blkA
      have HKY := Lib.hid KY; have HX5 := Lib.hid hb5
      have HB5 := Lib.hid (HBr.out.trans (hb5.mono (by omega)))
      have HR5 := Lib.hid (HRr.out.next hb5); have HFL5 := Lib.hid (HFC.out.next hb5)
      have HKF5 := Lib.hid HR5.out.f; have HKP5 := Lib.hid HR5.out.p
      have hz5 : w3.heap.size ≤ w5.heap.size := by have := hb5.size; omega
      have HNQ : Hid (∀ kk, kk = w'.heap.size ∨ kk = bf + 1 ∨ kk = wr.heap.size → ¬ (kk = bf ∨ qc.ownBlock = some kk)) := Lib.hid fun kk hk => HFC.out.no (by omega) (by omega)
      clear hw5 c0 c1 c2 hb5 KY HRr HBr HFC HFR HCJ
      refine wp_region_held_drew (S := fun W => Fr (fun kk => kk = bf ∨ qc.ownBlock = some kk) w5 W) (by kernel_rfl) ((Fr.refl _ _).drew) (fun hH => ?_)
      refine wpAnyH_atN ?_
      intro wa hwa
      have hX : Below w5.heap.size w5 wa := by rw [hwa]; exact (Below.refl _ _).drew
      replace hH : Fr (fun kk => kk = bf ∨ qc.ownBlock = some kk) w5 wa := Fr.of hX
      clear hwa
      refine tkK 0 (v := ?_) rfl ?hy hH ?_
      case hy => (intro w9_ hS9; have t := (hS9.blk HKF5.out (HNQ.out _ (.inr (.inl rfl)))).cell; clear hS9; go_simp; try with_reducible rfl)
      (try simp only [PU, Act.put])
      refine tkQ 1 (v := ?_) rfl hH ?_
      (try simp only [PU, Act.put])
      refine tkQ 3 (v := ?_) rfl hH ?_
      (try simp only [PU, Act.put])
      refine tkK 4 (v := ?_) rfl ?hy hH ?_
      case hy => (intro w9_ hS9; have t := (hS9.blk HKY.out (HNQ.out _ (.inr (.inr rfl)))).cell; clear hS9; go_simp; try with_reducible rfl)
      (try simp only [PU, Act.put])
      refine tkQ 5 (v := ?_) rfl hH ?_
      (try simp only [PU, Act.put])
      refine tkK 6 (v := ?_) rfl ?hy hH ?_
      case hy => (intro w9_ hS9; have t := (hS9.blk HKP5.out (HNQ.out _ (.inl rfl))).cell; clear hS9; go_simp; try with_reducible rfl)
      (try simp only [PU, Act.put])
      refine tkQ 7 (v := ?_) rfl hH ?_
      (try simp only [PU, Act.put])
      refine tkQ 8 (v := ?_) rfl hH ?_
      (try simp only [PU, Act.put])
      refine tkQ 9 (v := ?_) rfl hH ?_
      (try simp only [PU, Act.put])
      refine tkK 10 (v := ?_) rfl ?hy hH ?_
      case hy => (intro w9_ hS9; have t := (hS9.blk HKY.out (HNQ.out _ (.inr (.inr rfl)))).cell; clear hS9; go_simp; try with_reducible rfl)
      (try simp only [PU, Act.put])
      refine wpAnyH_ready (rs := [2, 11]) (by kernel_rfl) (by simp) ?_
      refine AllReadyH.cons rfl (fun K hK => ?_) (AllReadyH.cons rfl (fun K hK => ?_) (AllReadyH.nil))
      · go_simp
        replace hH : Fr (fun kk => kk = bf ∨ qc.ownBlock = some kk) w5 _ := Fr.of (hX.alloc (by have := hX.size; omega) (.cells #[.int .i64 (j : Int)] 3))
        refine hK.out _ _ hH (fun hH => ?_)
        clear hK
        (try simp only [PU, Act.put])
        refine wpAnyH_atN ?_
        intro wb hwn
        have hbn : Below wa.heap.size wa wb := by rw [hwn]; exact (Below.refl _ _).alloc (Nat.le_refl _) _
        have HKI := Lib.hid (show Blk wb wa.heap.size 3 #[.int .i64 (j : Int)] by rw [hwn]; exact Blk.new _ _ _)
        replace hX := hX.next hbn
        replace hH : Fr (fun kk => kk = bf ∨ qc.ownBlock = some kk) w5 wb := Fr.of hX
        clear hwn hbn
        refine nxH 11 (by kernel_rfl) rfl (fun K hK => ?_)
        go_simp
        refine (HFS.out _ (HB5.out.trans (hX.mono (by omega)))).mono ?_
        rintro en wc ⟨rfl, hbn⟩
        replace hX := hX.next hbn
        replace HKI := Lib.hid (HKI.out.next hbn)
        clear hbn
        refine hK.out _ _ (Fr.of hX) (fun hH => ?_)
        clear hK
        (try simp only [PU, Act.put])
        refine nxH 12 (by kernel_rfl) rfl (fun K hK => ?_)
        go_simp
        refine (e_report (HFL5.out.next hX) HBL.out.1 (Nat.le_trans HBL.out.2 (Nat.le_trans hz5 hX.size)) (by omega) (-1) e1 nm (l := [(j : Int)]) (by simp) (sl_blk1L HKI.out)).mono ?_
        rintro en w8 ⟨rfl, hrep⟩
        obtain ⟨q8, hf8, he8⟩ := RepP.e (HFL5.out.next hX) hrep
        refine hK.out _ _ ((Fr.of hX).trans he8.1) (fun hH => ?_)
        clear hK
        (try simp only [PU, Act.put])
        refine wpAnyH_done (by kernel_rfl) ?_ _
        have HF8 := Lib.hid (show Flt w8 bf base q8 (sumTo cA (j + 1)) by rw [show sumTo cA (j + 1) = sumTo cA j + cA j from rfl, ← HE1.out]; exact hf8)
        have HE8 := Lib.hid (Emt.pre (HX5.out.next hX) he8)
        clear hX hH hf8 he8 hrep
        go_wp2_with fail
        exact ⟨⟨j + 1, q8, by omega, by go_num, HF8.out, HEM.out.trans HE8.out⟩, by simp [intOf]; omega⟩
      · go_simp
        refine (HFS.out _ (HB5.out.trans (hX.mono (by omega)))).mono ?_
        rintro en wb ⟨rfl, hbn⟩
        replace hX := hX.next hbn
        clear hbn
        refine hK.out _ _ (Fr.of hX) (fun hH => ?_)
        clear hK
        (try simp only [PU, Act.put])
        refine nxH 2 (by kernel_rfl) rfl (fun K hK => ?_)
        go_simp
        replace hH : Fr (fun kk => kk = bf ∨ qc.ownBlock = some kk) w5 _ := Fr.of (hX.alloc (by have := hX.size; omega) (.cells #[.int .i64 (j : Int)] 3))
        refine hK.out _ _ hH (fun hH => ?_)
        clear hK
        (try simp only [PU, Act.put])
        refine wpAnyH_atN ?_
        intro wc hwn
        have hbn : Below wb.heap.size wb wc := by rw [hwn]; exact (Below.refl _ _).alloc (Nat.le_refl _) _
        have HKI := Lib.hid (show Blk wc wb.heap.size 3 #[.int .i64 (j : Int)] by rw [hwn]; exact Blk.new _ _ _)
        replace hX := hX.next hbn
        replace hH : Fr (fun kk => kk = bf ∨ qc.ownBlock = some kk) w5 wc := Fr.of hX
        clear hwn hbn
        refine nxH 12 (by kernel_rfl) rfl (fun K hK => ?_)
        go_simp
        refine (e_report (HFL5.out.next hX) HBL.out.1 (Nat.le_trans HBL.out.2 (Nat.le_trans hz5 hX.size)) (by omega) (-1) e1 nm (l := [(j : Int)]) (by simp) (sl_blk1L HKI.out)).mono ?_
        rintro en w8 ⟨rfl, hrep⟩
        obtain ⟨q8, hf8, he8⟩ := RepP.e (HFL5.out.next hX) hrep
        refine hK.out _ _ ((Fr.of hX).trans he8.1) (fun hH => ?_)
        clear hK
        (try simp only [PU, Act.put])
        refine wpAnyH_done (by kernel_rfl) ?_ _
        have HF8 := Lib.hid (show Flt w8 bf base q8 (sumTo cA (j + 1)) by rw [show sumTo cA (j + 1) = sumTo cA j + cA j from rfl, ← HE1.out]; exact hf8)
        have HE8 := Lib.hid (Emt.pre (HX5.out.next hX) he8)
        clear hX hH hf8 he8 hrep
        go_wp2_with fail
        exact ⟨⟨j + 1, q8, by omega, by go_num, HF8.out, HEM.out.trans HE8.out⟩, by simp [intOf]; omega⟩
    · obtain rfl : nv = j := by omega
      obtain ⟨z_1, T_1, F_1⟩ := HRr.out.p.open_
      go_upto_region 11 with fail
      clear T_1 z_1 F_1 HFR HCA0
      obtain ⟨w7, hw7⟩ : ∃ w7, wr = w7 := ⟨_, rfl⟩
      rw [HCT.out] at HFC
      rw [hw7] at HFC HEM HRr HBr hzr ⊢
      have HR7 := HRr; have HF7 := HFC; have HE7 := HEM; have HB7 := HBr
      clear hw7 hsj HRr HFC HEM HBr
      obtain ⟨q7, hq7⟩ : ∃ q, qc = q := ⟨_, rfl⟩
      rw [hq7] at HR7 HF7 HE7
      clear hq7
      go_loopw [40] (fun v40 wr => ∃ (j : Nat) (qc : Value), j ≤ nq ∧ v40 = .int .i64 j ∧ Flt wr bf base qc (cT + sumTo cP j) ∧ Emt bf w7 wr q7 qc) (fun v _ => nq - (intOf v).toNat)
      case atStart => exact ⟨0, q7, Nat.zero_le _, rfl, HF7.out, Emt.refl _ _ _⟩
      case round =>
      obtain ⟨wv, hwv⟩ : ∃ x, x = wr := ⟨_, rfl⟩
      subst hwv
      obtain ⟨j, qc, hj, rfl, hfc, hec⟩ := hrel
      have HFC := Lib.hid hfc; have HEM := Lib.hid hec
      have HRr := Lib.hid (HR7.out.emt hec)
      have HBr : Hid (Below B w wv) := Lib.hid (HB7.out.trans (hec.1.below (by omega) (fun kk hk => by rcases hk with e | e; omega; have := own_gE HF7.out.own.choose_spec.1 e; omega)))
      have hzr7 := hec.1.size
      have hsj : sumTo cP j ≤ cU := by rw [← HCU.out]; exact sumTo_le hj
      clear hfc hec
      by_cases hjn : j < nq
      · obtain ⟨p, hpj⟩ : ∃ p, ps[j]? = some p := ⟨_, List.getElem?_eq_getElem (by have := HNQ0.out; omega)⟩
        obtain ⟨⟨g, o, hA2, hgB, c0, c1, c2, c3, c4, c5⟩, hpv, hpn1, hpc, _, _⟩ := HQ.out j p hpj
        subst hA2
        have hX := HBr.out
        have d0 := (hX.cell (p := ⟨g, o + j * 6, none⟩) hgB).trans c0
        have d1 := (hX.cell (p := ⟨g, o + j * 6 + 1, none⟩) hgB).trans c1
        have d2 := (hX.cell (p := ⟨g, o + j * 6 + 2, none⟩) hgB).trans c2
        have d3 := (hX.cell (p := ⟨g, o + j * 6 + 3, none⟩) hgB).trans c3
        have d4 := (hX.cell (p := ⟨g, o + j * 6 + 4, none⟩) hgB).trans c4
        have d5 := (hX.cell (p := ⟨g, o + j * 6 + 5, none⟩) hgB).trans c5
        have HPVj := Lib.hid hpv; have HPN1 := Lib.hid hpn1
        have HPFj := Lib.hid (HPF.out j p hpj); have HVPj := Lib.hid (HVP.out j p hpj (j : Int)); have HPVN := Lib.hid (HPV.out j p hpj)
        have hp8 := HP8.out j p hpj
        have HPC := Lib.hid (HPI.out p.nm)
        have HCJ := Lib.hid (HCP0.out j p hpj)
        have hl3 := HL3.out j hjn
        have hl4 := HL4.out j
        obtain ⟨pn, pV, pnv, pcv, pvs, ⟨bk, bnum, bnm, bA, bn, bcap⟩⟩ := p
        dsimp only at *
        obtain ⟨ri, hri⟩ : ∃ r, procI pn ps = r := ⟨_, rfl⟩
        rw [hri] at HCJ HPC
        obtain ⟨o1, ho1⟩ : ∃ o, one (if ri < (j : Int) then 22 else 0) = o := ⟨_, rfl⟩
        have hol : o1 ≤ 1 := by rw [← ho1]; exact one_le _
        rw [ho1] at HCJ
        have HO1 := Lib.hid ho1
        obtain ⟨n6, hn6⟩ : ∃ n, cT + sumTo cP j + o1 = n := ⟨_, rfl⟩
        have hnl : n6 ≤ 300000 := by omega
        have HN6 := Lib.hid hn6
        have HDV0 : ∀ (i : Nat) (v : Vr), pvs[i]? = some v → one (dupE (pvs.take i) v.nm) = dupC pvs i := fun i v h => by unfold dupC; rw [h]
        obtain ⟨cv', hcv⟩ : ∃ f, dupC pvs = f := ⟨_, rfl⟩
        obtain ⟨cb, hcb⟩ : ∃ f, cntB w B ps d ⟨bk, bnum, bnm, bA, bn, bcap⟩ pvs = f := ⟨_, rfl⟩
        rw [hcv] at HDV0 HCJ
        rw [hcb] at HCJ
        have HDV := Lib.hid HDV0; have HCB := Lib.hid hcb
        obtain ⟨cs, hcs⟩ : ∃ c, sumTo cv' pnv = c := ⟨_, rfl⟩
        rw [hcs] at HCJ
        have hcj := HCJ.out
        have hbig : n6 + cs + cb ≤ 300000 := by omega
        have HCS := Lib.hid hcs
        have HSUM : Hid (cT + sumTo cP (j + 1) = n6 + cs + cb) := Lib.hid (by rw [show sumTo cP (j + 1) = sumTo cP j + cP j from rfl, hcj]; omega)
        clear ho1 hn6 HDV0 hcv hcb hcs hcj
        have j0 : (0 : Int) ≤ (j : Int) := by omega
        have j1 : (j : Int) < (nq : Int) := by omega
        clear c0 c1 c2 c3 c4 c5 hpj hpv hpn1 hX hri HPF HVP HPV HP8 HPI HCP0 HL3 HL4 HQ
        go_upto_region 13 with fail
        refine wp_nameE ?_
        intro w5 hw5
        have hb5 : Below wv.heap.size wv w5 := by rw [hw5]; exact (by go_grown)
        have KI : Blk w5 wv.heap.size 3 #[.int .i64 (j : Int)] := by rw [hw5]; exact blkA
        have KP : Blk w5 (wv.heap.size + 1) 64 #[.string pn, .slice pV pnv pcv, .int .u8 bk, .int .i64 bnum, .string bnm, .slice bA bn bcap] := by rw [hw5]; exact Blk.new' (by simp) _ _
        have HBI5 := Lib.hid KI; have HPB5 := Lib.hid KP; have HX5 := Lib.hid hb5
        have HB5 := Lib.hid (HBr.out.trans (hb5.mono (by omega)))
        have HR5 := Lib.hid (HRr.out.next hb5); have HFL5 := Lib.hid (HFC.out.next hb5)
        have HKP5 := Lib.hid HR5.out.p
        have hz5 : w3.heap.size ≤ w5.heap.size := by have := hb5.size; omega
        have hz5b : wv.heap.size + 1 < w5.heap.size := KP.lt
        have hbr3 : w3.heap.size ≤ wv.heap.size := by omega
        have hno5 : ∀ kk, kk = wv.heap.size ∨ kk = wv.heap.size + 1 → ¬ (kk = bf ∨ qc.ownBlock = some kk) := fun kk hk => HFC.out.no (by omega) (.inr (by omega))
        have HRI5 : Hid (RepX w5 bf (bf + 1) wv.heap.size base qc 3 #[.int .i64 (j : Int)]) := Lib.hid ⟨HR5.out.f, KI, HR5.out.h, HR5.out.n4, ⟨by omega, hno5 _ (.inl rfl)⟩⟩
        have HDP5 : Hid (Dn bf qc w5 (wv.heap.size + 1)) := Lib.hid ⟨by omega, hno5 _ (.inr rfl)⟩
        clear hw5 d0 d1 d2 d3 d4 d5 hb5 KI KP HRr HBr HFC hno5
        refine wp_region_held_drew (S := fun W => Below w5.heap.size w5 W) (by kernel_rfl) ((Below.refl _ _).drew) (fun hH => ?_)
        refine wpAnyH_atN ?_
        intro wa hwa
        have hX : Below w5.heap.size w5 wa := by rw [hwa]; exact (Below.refl _ _).drew
        replace hH : Below w5.heap.size w5 wa := hX
        clear hwa
        refine tkK 0 (v := ?_) rfl ?hy hH ?_
        case hy => (intro w9_ hS9; have t := (HKP5.out.next hS9).cell; clear hS9; go_simp; try with_reducible rfl)
        (try simp only [PU, Act.put])
        refine tkQ 1 (v := ?_) rfl hH ?_
        (try simp only [PU, Act.put])
        refine tkK 2 (v := ?_) rfl ?hy hH ?_
        case hy => (intro w9_ hS9; have t := (HPB5.out.next hS9).cell; clear hS9; go_simp; try with_reducible rfl)
        (try simp only [PU, Act.put])
        refine tkK 4 (v := ?_) rfl ?hy hH ?_
        case hy => (intro w9_ hS9; have t := (HBI5.out.next hS9).cell; clear hS9; go_simp; try with_reducible rfl)
        (try simp only [PU, Act.put])
        refine nxH 3 (by kernel_rfl) rfl (fun K hK => ?_)
        go_simp
        refine (HPC.out _ (HB5.out.trans (hX.mono (by omega)))).mono ?_
        rintro en wb ⟨rfl, hbn⟩
        replace hX := hX.next hbn
        clear hbn
        refine hK.out _ _ hX (fun hH => ?_)
        clear hK
        (try simp only [PU, Act.put])
        refine tkQ 5 (v := ?_) rfl hH ?_
        (try simp only [PU, Act.put])
        refine wpAnyH_done (by kernel_rfl) ?_ _
        have HX6 := Lib.hid hX
        clear hX hH
        generalize wb = w6a at *
        -- behind the comparison
        have HTB : Hid (∀ b, decide (ri < (j : Int)) = b → o1 = if b then 1 else 0) := Lib.hid fun b hb => by rw [← HO1.out]; cases b <;> simp at hb <;> simp [hb, one]
        generalize htb : decide (ri < (j : Int)) = tb
        have HTC := Lib.hid (HTB.out tb htb)
        clear htb HTB
        cases tb
        rotate_left
        focus
          obtain ⟨z_f, T_f, F_f⟩ := (HRI5.out.next HX6.out).f.open_
          obtain ⟨z_i, T_i, F_i⟩ := (HRI5.out.next HX6.out).p.open_
          obtain ⟨z_p, T_p, F_p⟩ := (HPB5.out.next HX6.out).open_
          go_wp2_with fail
          clear z_f T_f F_f z_i T_i F_i z_p T_p F_p
          refine (e_report (HFL5.out.next HX6.out) HBL.out.1 (Nat.le_trans HBL.out.2 (Nat.le_trans hz5 HX6.out.size)) (by omega) (j : Int) 22 pn (l := []) (by simp) Sl.nil).mono ?_
          rintro en w6 ⟨rfl, hrep⟩
          have hrep' := RepP.e (HFL5.out.next HX6.out) hrep
          obtain ⟨q6, hf6, he6⟩ := hrep'
          have HF6 : Hid (Flt w6 bf base q6 n6) := Lib.hid (by rw [← HN6.out, HTC.out]; exact hf6)
          have HE6 : Hid (Emt bf w5 w6 qc q6) := Lib.hid (Emt.pre HX6.out he6)
          clear HTC HX6 hrep hf6 he6
          have HRI6 := Lib.hid (HRI5.out.emt HE6.out); have HR6 := Lib.hid (HR5.out.emt HE6.out)
          have HDP6 := Lib.hid (HDP5.out.kb HE6.out)
          have HPB6 := Lib.hid (HE6.out.1.blk HPB5.out HDP5.out.2)
          obtain ⟨z_p, T_p, F_p⟩ := HPB6.out.open_
          go_upto_region 16 with fail
        rotate_left
        focus
          have HF6' : Hid (Flt w6a bf base qc n6) := Lib.hid (by rw [← HN6.out, HTC.out]; exact HFL5.out.next HX6.out)
          have HE6' : Hid (Emt bf w5 w6a qc qc) := Lib.hid (Emt.pre HX6.out (Emt.refl _ _ _))
          clear HTC HX6
          obtain ⟨q6, hq6⟩ : ∃ q, qc = q := ⟨_, rfl⟩
          have HF6 : Hid (Flt w6a bf base q6 n6) := by rw [← hq6]; exact HF6'
          have HE6 : Hid (Emt bf w5 w6a qc q6) := by rw [← hq6]; exact HE6'
          clear HF6' HE6' hq6
          obtain ⟨w6, hw6⟩ : ∃ x, w6a = x := ⟨_, rfl⟩
          rw [hw6] at HF6 HE6 ⊢
          clear hw6
          have HRI6 := Lib.hid (HRI5.out.emt HE6.out); have HR6 := Lib.hid (HR5.out.emt HE6.out)
          have HDP6 := Lib.hid (HDP5.out.kb HE6.out)
          have HPB6 := Lib.hid (HE6.out.1.blk HPB5.out HDP5.out.2)
          obtain ⟨z_p, T_p, F_p⟩ := HPB6.out.open_
          go_upto_region 16 with fail
        all_goals
          clear z_p T_p F_p
          have HB6 : Hid (Below B w w6) := Lib.hid (HB5.out.trans (HE6.out.1.below (by omega) (fun kk hk => by rcases hk with e | e; omega; have := own_gE HFL5.out.own.choose_spec.1 e; omega)))
          have hz6 : w5.heap.size ≤ w6.heap.size := HE6.out.1.size
          go_loopw [59] (fun v59 wq => ∃ (i : Nat) (qi : Value), i ≤ pnv ∧ v59 = .int .i64 i ∧ Flt wq bf base qi (n6 + sumTo cv' i) ∧ Emt bf w6 wq q6 qi) (fun v _ => pnv - (intOf v).toNat)
          case atStart => exact ⟨0, q6, Nat.zero_le _, rfl, HF6.out, Emt.refl _ _ _⟩
          case round =>
          obtain ⟨i, qi, hi, rfl, hfi, hei⟩ := hrel
          have HFI := Lib.hid hfi; have HEI := Lib.hid hei
          have HRIr := Lib.hid (HRI6.out.emt hei); have HRr := Lib.hid (HR6.out.emt hei)
          have HDPr := Lib.hid (HDP6.out.kb hei)
          have HPBr := Lib.hid (hei.1.blk HPB6.out HDP6.out.2)
          have HBr : Hid (Below B w wr) := Lib.hid (HB6.out.trans (hei.1.below (by omega) (fun kk hk => by rcases hk with e | e; omega; have := own_gE HF6.out.own.choose_spec.1 e; omega)))
          have hzr := hei.1.size
          have hsi : sumTo cv' i ≤ cs := by rw [← HCS.out]; exact sumTo_le hi
          clear hfi hei
          by_cases hin : i < pnv
          · obtain ⟨v, hvi⟩ : ∃ v, pvs[i]? = some v := ⟨_, List.getElem?_eq_getElem (by have := HPN1.out; omega)⟩
            obtain ⟨g2, o2, hA3, hg2, c0, c1, c2⟩ := (HPVj.out.next HBr.out) i v hvi
            have HCI := Lib.hid (HDV.out i v hvi)
            obtain ⟨vn, vk, vl⟩ := v
            dsimp only at c0 c1 c2 HCI
            have i0 : (0 : Int) ≤ (i : Int) := by omega
            have i1 : (i : Int) < (pnv : Int) := by omega
            have i2 : i ≤ pcv := by omega
            have HFS := Lib.hid (HPFj.out i vn (by omega))
            obtain ⟨e1, he1⟩ : ∃ e, dupE (pvs.take i) vn = e := ⟨_, rfl⟩
            rw [he1] at HFS HCI
            have HE1 := HCI
            subst hA3
            clear hvi he1
            go_upto_region 18 with fail
            refine wp_nameE ?_
            intro w9 hw9
            have hb9 : Below wr.heap.size wr w9 := by rw [hw9]; exact (by go_grown)
            have KY : Blk w9 wr.heap.size 72 #[.string vn, .int .u8 vk, .int .i64 vl] := by rw [hw9]; exact blkA
            have HKY := Lib.hid KY; have HX9 := Lib.hid hb9
            have HB9 := Lib.hid (HBr.out.trans (hb9.mono (by omega)))
            have HFL9 := Lib.hid (HFI.out.next hb9)
            have HRI9 := Lib.hid (HRIr.out.next hb9)
            have HKF9 := Lib.hid HRI9.out.f; have HBI9 := Lib.hid HRI9.out.p; have HPB9 := Lib.hid (HPBr.out.next hb9)
            have hz9 : w3.heap.size ≤ w9.heap.size := by have := hb9.size; omega
            have HNQ : Hid (∀ kk, kk = w'.heap.size ∨ kk = bf + 1 ∨ kk = wv.heap.size ∨ kk = wv.heap.size + 1 ∨ kk = wr.heap.size → ¬ (kk = bf ∨ qi.ownBlock = some kk)) := Lib.hid fun kk hk => by
              rcases hk with h | h | h | h | h
              · exact HFI.out.no (by omega) (.inl (by omega))
              · exact HFI.out.no (by omega) (.inl (by omega))
              · rw [h]; exact HRIr.out.n1.2
              · rw [h]; exact HDPr.out.2
              · exact HFI.out.no (by omega) (.inr (by omega))
            clear hw9 c0 c1 c2 hb9 KY HRIr HRr HDPr HPBr HBr HFI HCI
            refine wp_region_held_drew (S := fun W => Fr (fun kk => kk = bf ∨ qi.ownBlock = some kk) w9 W) (by kernel_rfl) ((Fr.refl _ _).drew) (fun hH => ?_)
            refine wpAnyH_atN ?_
            intro wa hwa
            have hX : Below w9.heap.size w9 wa := by rw [hwa]; exact (Below.refl _ _).drew
            replace hH : Fr (fun kk => kk = bf ∨ qi.ownBlock = some kk) w9 wa := Fr.of hX
            clear hwa
            refine tkK 0 (v := ?_) rfl ?hy hH ?_
            case hy => (intro w9_ hS9; have t := (hS9.blk HKF9.out (HNQ.out _ (.inr (.inl rfl)))).cell; clear hS9; go_simp; try with_reducible rfl)
            (try simp only [PU, Act.put])
            refine tkK 1 (v := ?_) rfl ?hy hH ?_
            case hy => (intro w9_ hS9; have t := (hS9.blk HBI9.out (HNQ.out _ (.inr (.inr (.inl rfl))))).cell; clear hS9; go_simp; try with_reducible rfl)
            (try simp only [PU, Act.put])
            refine tkQ 2 (v := ?_) rfl hH ?_
            (try simp only [PU, Act.put])
            refine tkK 3 (v := ?_) rfl ?hy hH ?_
            case hy => (intro w9_ hS9; have t := (hS9.blk HKY.out (HNQ.out _ (.inr (.inr (.inr (.inr rfl)))))).cell; clear hS9; go_simp; try with_reducible rfl)
            (try simp only [PU, Act.put])
            refine tkQ 4 (v := ?_) rfl hH ?_
            (try simp only [PU, Act.put])
            refine tkK 5 (v := ?_) rfl ?hy hH ?_
            case hy => (intro w9_ hS9; have t := (hS9.blk HPB9.out (HNQ.out _ (.inr (.inr (.inr (.inl rfl)))))).cell; clear hS9; go_simp; try with_reducible rfl)
            (try simp only [PU, Act.put])
            refine tkQ 6 (v := ?_) rfl hH ?_
            (try simp only [PU, Act.put])
            refine tkQ 7 (v := ?_) rfl hH ?_
            (try simp only [PU, Act.put])
            refine tkQ 8 (v := ?_) rfl hH ?_
            (try simp only [PU, Act.put])
            refine tkK 9 (v := ?_) rfl ?hy hH ?_
            case hy => (intro w9_ hS9; have t := (hS9.blk HKY.out (HNQ.out _ (.inr (.inr (.inr (.inr rfl)))))).cell; clear hS9; go_simp; try with_reducible rfl)
            (try simp only [PU, Act.put])
            refine nxH 10 (by kernel_rfl) rfl (fun K hK => ?_)
            go_simp
            refine (HFS.out _ (HB9.out.trans (hX.mono (by omega)))).mono ?_
            rintro en wb ⟨rfl, hbn⟩
            replace hX := hX.next hbn
            clear hbn
            refine hK.out _ _ (Fr.of hX) (fun hH => ?_)
            clear hK
            (try simp only [PU, Act.put])
            refine nxH 11 (by kernel_rfl) rfl (fun K hK => ?_)
            go_simp
            refine (e_report (HFL9.out.next hX) HBL.out.1 (Nat.le_trans HBL.out.2 (Nat.le_trans hz9 hX.size)) (by omega) (j : Int) e1 vn (l := []) (by simp) Sl.nil).mono ?_
            rintro en w10 ⟨rfl, hrep⟩
            obtain ⟨q10, hf10, he10⟩ := RepP.e (HFL9.out.next hX) hrep
            refine hK.out _ _ ((Fr.of hX).trans he10.1) (fun hH => ?_)
            clear hK
            (try simp only [PU, Act.put])
            refine wpAnyH_done (by kernel_rfl) ?_ _
            have HF10 := Lib.hid (show Flt w10 bf base q10 (n6 + sumTo cv' (i + 1)) by rw [show sumTo cv' (i + 1) = sumTo cv' i + cv' i from rfl, ← HE1.out, ← Nat.add_assoc]; exact hf10)
            have HE10 := Lib.hid (Emt.pre (HX9.out.next hX) he10)
            clear hX hH hf10 he10 hrep
            go_wp2_with fail
            exact ⟨⟨i + 1, q10, by omega, by go_num, HF10.out, HEI.out.trans HE10.out⟩, by simp [intOf]; omega⟩
          · obtain rfl : pnv = i := by omega
            obtain ⟨z_1, T_1, F_1⟩ := HRr.out.p.open_
            obtain ⟨z_p, T_p, F_p⟩ := HPBr.out.open_
            go_wp2_with fail
            clear z_1 T_1 F_1 z_p T_p F_p
            refine (HVPj.out wr bf (bf + 1) wv.heap.size base qi (n6 + sumTo cv' pnv) _ [] pV pnv pcv pvs HBr.out (by omega) (by omega) HRIr.out HFI.out (by dsimp only; rw [HCB.out]; omega) Sl.nil (by simp) (vs_dn HPVj.out HPN1.out hpc HPVN.out HBr.out (by omega) HFI.out (by omega) (by omega)) HPN1.out (by omega)).mono ?_
            rintro en w8 ⟨rfl, q8, hf8, he8⟩
            have HF8 : Hid (Flt w8 bf base q8 (cT + sumTo cP (j + 1))) := Lib.hid (by rw [HSUM.out, ← HCS.out, ← HCB.out]; exact hf8)
            have HE8 := Lib.hid (HEM.out.trans (Emt.pre HX5.out (HE6.out.trans (HEI.out.trans he8))))
            clear hf8 he8
            go_wp2_with fail
            exact ⟨⟨j + 1, q8, by omega, by go_num, HF8.out, HE8.out⟩, by simp [intOf]; omega⟩
      · obtain rfl : nq = j := by omega
        obtain ⟨z_1, T_1, F_1⟩ := HRr.out.p.open_
        go_wp2_with fail
        clear z_1 T_1 F_1
        refine (HVM.out wv bf (bf + 1) w'.heap.size base qc (cT + sumTo cP nq) _ [] V nv cv vs HBr.out (by omega) (by omega) HRr.out HFC.out (by dsimp only; rw [HCM.out]; omega) Sl.nil (by simp) (vs_dn HV.out HNV.out hcv HVN.out HBr.out (by omega) HFC.out (by omega) (by omega)) HNV.out (by omega)).mono ?_
        rintro en w8 ⟨rfl, q8, hf8, he8⟩
        have HF8 : Hid (Flt w8 bf base q8 (cT + cU + cM)) := Lib.hid (by rw [← HCU.out, ← HCM.out]; exact hf8)
        have HBZ : Hid (Below w'.heap.size w' w8) := Lib.hid (HB3.out.trans (((HE7.out.trans (HEM.out.trans he8)).1).below (by omega) (fun kk hk => by rcases hk with e | e; omega; cases e)))
        clear hf8 he8
        obtain ⟨A8, c8, rfl⟩ := own_form HF8.out.own.choose_spec.1
        obtain ⟨z_f, T_f, F_f⟩ := HF8.out.blk.open_
        go_wp2_with fail
        go_ret
        exact ⟨⟨A8, c8, rfl⟩, HBZ.out⟩
theorem e_CheckF {w : World} {B d : Nat} (hBw : B ≤ w.heap.size) (V : Option Addr) (nv cv : Nat) (vs : List Vr) (hv : VsAt w B V vs) (hnv : vs.length = nv) (hnv2 : nv ≤ 17592186043904) (hcv : nv ≤ cv) (hVn : V = none → cv = 0) (Q : Option Addr) (nq cq : Nat) (ps : List Pc) (hq : PrsAt w B d Q ps) (hnq : ps.length = nq) (hnq2 : nq ≤ 17592186043904) (hpn : ∀ p ∈ ps, p.V = none → p.cv = 0) (m : Nd) (hm : KV w B d m) (hval : validB w B d vs ps m = false) (w' : World) (hb : Below B w w') :
    Calls Tryz.prog 17 #[.agg #[.slice V nv cv, .slice Q nq cq, .int .u8 m.k, .int .i64 m.num, .string m.nm, .slice m.A m.n m.cap]] w' fun en w'' => (∃ A c, en = .returned (.slice A 0 c)) ∧ Below w'.heap.size w' w'' := by
  have HB := Lib.hid hb
  have HVAL : Hid (∀ W, Below B w W → Calls Tryz.prog 16 #[.agg #[.slice V nv cv, .slice Q nq cq, .int .u8 m.k, .int .i64 m.num, .string m.nm, .slice m.A m.n m.cap]] W fun en w'' => en = .returned (.bool false) ∧ Below W.heap.size W w'') := Lib.hid fun W hW => (e_ValidP hBw V nv cv vs hv hnv hnv2 Q nq cq ps hq hnq hnq2 m hm W hW).mono fun en w'' h => ⟨by rw [h.1, hval], h.2⟩
  have hBw' : B ≤ w'.heap.size := by have := hb.size; omega
  clear hb hv hnv hq hnq hval hpn hm hVn
  obtain ⟨mk, mnum, mnm, mA, mn, mcap⟩ := m
  dsimp only at *
  go_enter Tryz.func17, Tryz.ntmps17
  go_upto_region 1 with fail
  refine wp_nameE ?_
  intro w1 hw1
  have hb1 : Below w'.heap.size w' w1 := by rw [hw1]; exact (by go_grown)
  have K1 : Blk w1 w'.heap.size 28 #[.slice V nv cv, .slice Q nq cq, .int .u8 mk, .int .i64 mnum, .string mnm, .slice mA mn mcap] := by rw [hw1]; exact blkA
  have HK1 := Lib.hid K1; have HB1 := Lib.hid hb1
  clear hw1 hb1
  obtain ⟨z_1, T_1, F_1⟩ := K1.open_
  clear K1
  go_wp2_with fail
  refine (HVAL.out w1 (HB.out.trans (HB1.out.mono hBw'))).mono ?_
  rintro en w2 ⟨rfl, hb2⟩
  have HB2 := Lib.hid (HB1.out.next hb2)
  clear T_1 z_1 F_1 hb2 HK1 HB1 HVAL
  go_wp2_with fail
  go_ret
  exact ⟨⟨_, _, rfl⟩, HB2.out⟩
noncomputable def chkN (w : World) (B d : Nat) (vs : List Vr) (ps : List Pc) (m : Nd) : Nat := if validB w B d vs ps m = true then cntP w B d vs ps m else 0
theorem e_CheckX {w : World} {B d : Nat} (hBw : B ≤ w.heap.size) (V : Option Addr) (nv cv : Nat) (vs : List Vr) (hv : VsAt w B V vs) (hnv : vs.length = nv) (hnv2 : nv ≤ 17592186043904) (hcv : nv ≤ cv) (hVn : V = none → cv = 0) (Q : Option Addr) (nq cq : Nat) (ps : List Pc) (hq : PrsAt w B d Q ps) (hnq : ps.length = nq) (hnq2 : nq ≤ 17592186043904) (hpn : ∀ p ∈ ps, p.V = none → p.cv = 0) (m : Nd) (hm : KV w B d m) (w' : World) (hb : Below B w w') :
    Calls Tryz.prog 17 #[.agg #[.slice V nv cv, .slice Q nq cq, .int .u8 m.k, .int .i64 m.num, .string m.nm, .slice m.A m.n m.cap]] w' fun en w'' => (∃ A c, en = .returned (.slice A (chkN w B d vs ps m) c)) ∧ Below w'.heap.size w' w'' := by
  unfold chkN
  cases h : validB w B d vs ps m with
  | true => simpa using e_CheckT hBw V nv cv vs hv hnv hnv2 hcv hVn Q nq cq ps hq hnq hnq2 hpn m hm h w' hb
  | false => simpa using e_CheckF hBw V nv cv vs hv hnv hnv2 hcv hVn Q nq cq ps hq hnq hnq2 hpn m hm h w' hb
end Go.Proofs.YtakfdnnlhjhcfaaGreatDoor
