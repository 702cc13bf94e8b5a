/- scope.Check, as far as the law ExprgenNames lays its program. Printed by gen_names.py. -/
import Derived.Test.YtbijhlgdilkopaaGreatDoorZNmG
import Derived.Great.BuildSlice
set_option linter.unusedVariables false
set_option linter.unusedSimpArgs false
set_option maxRecDepth 100000
set_option maxHeartbeats 4000000
namespace Go.Proofs.YtbijhlgdilkopaaGreatDoor
open Go.RowKit Bk
theorem VisOk.weak {w : World} {B : Nat} {V : Option Addr} {nv cv : Nat} {m x : Nd} {dp dp' c c' : Nat} {K K' : Prop} (h : VisOk w B V nv cv m x dp c K) (hd : dp ≤ dp') (hc : c = c') (hk : K → K') : VisOk w B V nv cv m x dp' c' K' := by
  subst hc
  intro w' bf b4 b1 base q n pv l h1 h2 h3 h4 h5 h6 h7 h8
  refine (h w' bf b4 b1 base q n pv l h1 h2 h3 h4 h5 h6 h7 (by omega)).mono ?_
  rintro en w'' ⟨e, q', n', a1, a2, a3, a4⟩
  exact ⟨e, q', n', a1, a2, fun h => hk (a3 h), a4⟩
theorem Ex.kid_dp {e a : Ex} (h : a ∈ e.kids) : a.dp + 1 ≤ e.dp := by
  cases e <;> simp [Ex.kids] at h
  case item s b => subst h; simp [Ex.dp]
  case un op b => subst h; simp [Ex.dp]
  case bin op b c => rcases h with rfl | rfl <;> (simp only [Ex.dp]; omega)
section
variable {w : World} {B : Nat} (hBw : B ≤ w.heap.size) {V : Option Addr} {nv cv : Nat} {vs : List Vr} (hv : VsAt w B V vs) (hnv : vs.length = nv) (hnv2 : nv ≤ 1000) (m : Nd)
include hBw hv hnv hnv2
theorem e_visitE : ∀ (e : Ex) (x : Nd), EV w B nameB e x → VisOk w B V nv cv m x e.dp e.sz (e.known vs) := by
  refine Ex.ind fun e ih x hx => ?_
  obtain ⟨hn, hkid⟩ := hx.kids
  have h2 := e.kids_le
  have hk : ∀ c : Int, (c = 54 ∨ c = 55 ∨ c = 50 ∨ c = 51) → (x.k == c) = false := fun c hc => by
    have : 1 ≤ x.k ∧ x.k ≤ 23 := by
      cases e with
      | num v => have := hx.1; omega
      | var s => have := hx.1; omega
      | top s => have := hx.1; omega
      | size s => have := hx.1; omega
      | item s a => have := hx.1; omega
      | un op a => have h1 := hx.1; have h2 := hx.2.1; omega
      | bin op a b => have h1 := hx.1; have h2 := hx.2.1; omega
    simp; omega
  have h1 : 1 ≤ e.dp := by cases e <;> simp [Ex.dp]
  have h := e_visitN hBw (V := V) (nv := nv) (cv := cv) (m := m) x (e.dp - 1) (hk 54 (by simp)) (hk 55 (by simp)) (hk 50 (by simp)) (hk 51 (by simp)) (fun W hW => e_faultE hBw V nv cv vs hv hnv (by omega) m e x hx W hW) (by omega)
    (fun i => ((e.kids[i]?).map Ex.sz).getD 0) (fun i => ∀ a, e.kids[i]? = some a → a.known vs) (fun i hi => by
      have he := List.getElem?_eq_getElem (l := e.kids) (i := i) (by omega)
      obtain ⟨y, h1, h2⟩ := hkid i _ he
      have hm := List.getElem_mem (l := e.kids) (n := i) (by omega)
      refine ⟨y, h1, (ih _ hm y h2).weak (by have := Ex.kid_dp hm; omega) (by rw [he]; rfl) (fun h a ha => ?_)⟩
      rw [he] at ha; injection ha with ha; subst ha; exact h)
  refine h.weak (by omega) ?_ (fun hh => e.known_of vs hh.1 fun a ha => ?_)
  · rw [hn]; cases e <;> simp [Ex.kids, Ex.sz, sumTo] <;> omega
  · obtain ⟨i, hi⟩ := List.getElem?_of_mem ha
    exact hh.2 i (by have := (List.getElem?_eq_some_iff.1 hi).1; omega) a hi
omit hv hnv hBw hnv2 in
theorem e_faultZ (x : Nd) (hk : x.k = 57 ∨ x.k = 52) (W : World) : Calls Tryz.prog 38 #[.agg #[.slice V nv cv, .slice none 0 0, .int .u8 m.k, .int .i64 m.num, .string m.nm, .slice m.A m.n m.cap], .agg #[.int .u8 x.k, .int .i64 x.num, .string x.nm, .slice x.A x.n x.cap], .slice V nv cv] W fun en w'' => ErrP True en ∧ Below W.heap.size W w'' :=
  (e_faultO V nv cv m x (by simp; omega) (by simp; omega) (by simp; omega) (by simp; omega) (by simp; omega) (by simp; omega) (by simp; omega) (by simp; omega) (by simp; omega) (by simp; omega) W).mono fun en w'' ⟨h1, h2⟩ => ⟨⟨0, h1, by omega, fun _ => trivial⟩, h2⟩
omit hv hnv hnv2 in
theorem e_visitZ (x : Nd) (hp : PlainK 57 0 x) : VisOk w B V nv cv m x 1 1 True := by
  have hk := hp.k
  have h := e_visitN hBw (V := V) (nv := nv) (cv := cv) (m := m) x 0 (by simp; omega) (by simp; omega) (by simp; omega) (by simp; omega) (fun W _ => e_faultZ m x (.inl hk) W) (by rw [hp.n]; omega) (fun _ => 0) (fun _ => True) (fun i hi => absurd hi (by rw [hp.n]; omega))
  exact h.weak (Nat.le_refl _) (by rw [hp.n]; rfl) (fun _ => trivial)
theorem e_visitM {e : Ex} {x mn : Nd} (hx : EV w B nameB e x) (hm : MainAt w B mn x) : VisOk w B V nv cv m mn (e.dp + 2) (2 * e.sz + 4) (e.known vs) := by
  have hE := e_visitE hBw hv hnv hnv2 m (cv := cv) e x hx
  have h1 : 1 ≤ e.dp := by cases e <;> simp [Ex.dp]
  obtain ⟨ifn, hki, hif⟩ := hm.k0
  have hik := hif.p.k; have hmk := hm.p.k
  obtain ⟨b1, hb1, hz1⟩ := hif.k1
  obtain ⟨b2, hb2, hz2⟩ := hif.k2
  have hI := e_visitN hBw (V := V) (nv := nv) (cv := cv) (m := m) ifn e.dp (by simp; omega) (by simp; omega) (by simp; omega) (by simp; omega) (fun W _ => e_faultZ m ifn (.inr hik) W) (by rw [hif.p.n]; omega) (fun i => if i = 0 ∨ i = 3 then e.sz else 1) (fun i => i = 0 → e.known vs) (fun i hi => by
    rw [hif.p.n] at hi
    match i, hi with
    | 0, _ => exact ⟨x, hif.k0, hE.weak (Nat.le_refl _) rfl (fun h _ => h)⟩
    | 1, _ => exact ⟨b1, hb1, (e_visitZ hBw m b1 hz1).weak h1 rfl (fun _ h => by cases h)⟩
    | 2, _ => exact ⟨b2, hb2, (e_visitZ hBw m b2 hz2).weak h1 rfl (fun _ h => by cases h)⟩
    | 3, _ => exact ⟨x, hif.k3, hE.weak (Nat.le_refl _) rfl (fun h _ => h)⟩)
  have hI2 : VisOk w B V nv cv m ifn (e.dp + 1) (2 * e.sz + 3) (e.known vs) := hI.weak (Nat.le_refl _) (by rw [hif.p.n]; simp [sumTo]; omega) (fun h => h.2 0 (by rw [hif.p.n]; omega) rfl)
  have hM := e_visitN hBw (V := V) (nv := nv) (cv := cv) (m := m) mn (e.dp + 1) (by simp; omega) (by simp; omega) (by simp; omega) (by simp; omega) (fun W _ => e_faultZ m mn (.inl hmk) W) (by rw [hm.p.n]; omega) (fun _ => 2 * e.sz + 3) (fun _ => e.known vs) (fun i hi => by
    rw [hm.p.n] at hi
    obtain rfl : i = 0 := by omega
    exact ⟨ifn, hki, hI2⟩)
  exact hM.weak (Nat.le_refl _) (by rw [hm.p.n]; simp [sumTo]; omega) (fun h => h.2 0 (by rw [hm.p.n]; omega))
end
theorem sl_blk1L {w : World} {g : Nat} {t : TypeId} {u : Value} (h : Blk w g t #[u]) : Sl w (fun k => k < w.heap.size) 1 (.slice (some ⟨g, 0, none⟩) 1 1) 1 [u] :=
  ⟨_, 1, rfl, Nat.le_refl _, (fun e => by cases e), rfl, fun _ => ⟨g, 0, rfl, h.lt, fun j v hv => by
    match j, hv with
    | 0, hv => simp at hv; subst hv; exact h.cell 0⟩⟩
theorem e_Check {w : World} {B : Nat} (hBw : B ≤ w.heap.size) (V : Option Addr) (nv cv : Nat) (vs : List Vr) (hv : VsAt w B V vs) (hnv : vs.length = nv) (hnv2 : nv ≤ 32) (hcv : nv ≤ cv) (m : Nd) {dp c : Nat} {K : Prop}
    (hval : ∀ W, Below B w W → Calls Tryz.prog 7 #[.agg #[.slice V nv cv, .slice none 0 0, .int .u8 m.k, .int .i64 m.num, .string m.nm, .slice m.A m.n m.cap]] W fun en w'' => en = .returned (.bool true) ∧ Below W.heap.size W w'')
    (hvis : VisOk w B V nv cv m m dp c K) (hdp : dp ≤ 1000) (hc : c ≤ 5000) (w' : World) (hb : Below B w w') :
    Calls Tryz.prog 8 #[.agg #[.slice V nv cv, .slice none 0 0, .int .u8 m.k, .int .i64 m.num, .string m.nm, .slice m.A m.n m.cap]] w' fun en w'' => (∃ A nf cf, en = .returned (.slice A nf cf) ∧ (nf = 0 → K)) ∧ Below w'.heap.size w' w'' := by
  have HB := Lib.hid hb; have HVAL := Lib.hid hval; have HVIS := Lib.hid hvis; have HV := Lib.hid hv; have HNV := Lib.hid hnv
  have hBw' : B ≤ w'.heap.size := by have := hb.size; omega
  have HFR : Hid (∀ j name, j ≤ nv → ∀ W, Below B w W → Calls Tryz.prog 19 #[.slice V j cv, .string name] W fun en w'' => ErrP True en ∧ Below W.heap.size W w'') := Lib.hid fun j name hj W hW => e_fresh hBw V j cv vs hv (by omega) (by omega) name W hW
  clear hb hval hvis hv hnv
  obtain ⟨mk, mnum, mnm, mA, mn, mcap⟩ := m
  dsimp only at *
  go_enter Tryz.func8, Tryz.ntmps8
  go_upto_region 1 with fail
  refine wp_nameE ?_
  intro w1 hw1
  have hb1 : Below w'.heap.size w' w1 := by rw [hw1]; exact (by go_grown)
  have K1 : Blk w1 w'.heap.size 31 #[.slice V nv cv, .slice none 0 0, .int .u8 mk, .int .i64 mnum, .string mnm, .slice mA mn mcap] := by rw [hw1]; exact (by repeat' (first | assumption | exact Blk.new' (by simp) _ _ | apply Blk.alloc | apply Blk.drew))
  have HK1 := Lib.hid K1; have HB1 := Lib.hid hb1
  clear hw1 hb1
  obtain ⟨z_1, T_1, F_1⟩ := K1.open_
  clear K1
  go_wp2_with fail
  refine (HVAL.out w1 (HB.out.trans (HB1.out.mono hBw'))).mono ?_
  rintro en w2 ⟨rfl, hb2⟩
  have HB2 := Lib.hid (HB1.out.next hb2); have HK2 := Lib.hid (HK1.out.next hb2)
  clear T_1 z_1 F_1 hb2 HK1 HB1
  have kn : Blk ((w2.alloc (.cells #[.slice none 0 0] 33)).alloc (.cells #[.nilFunc] 65)) (w2.heap.size + 1) 65 #[.nilFunc] := Blk.new' (by simp) _ _
  go_upto_region 5 with (refine wpList_store_one rfl 65 (.tmp 4) (.tmp 14) rfl (w2.heap.size + 1) rfl rfl 65 .nilFunc kn (by kernel_rfl) ?_; (try simp only [Act.put, Bk.PU]))
  refine wp_nameE ?_
  intro w3 hw3
  have hf3 : Fr (fun k => k = w2.heap.size + 1) ((w2.alloc (.cells #[.slice none 0 0] 33)).alloc (.cells #[.nilFunc] 65)) w3 := by rw [hw3]; exact Fr.setRowE _ _ _
  have hb3 : Below w2.heap.size w2 w3 := Below.trans (((Below.refl _ _).alloc (Nat.le_refl _) _).alloc (by simp) _) (hf3.below (by simp; omega) (fun k hk => by omega))
  have KFL : Blk w3 w2.heap.size 33 #[.slice none 0 0] := hf3.blk ((Blk.new w2 _ _).next ((Below.refl _ _).alloc (Nat.le_refl _) _)) (by omega)
  have KRP : Blk w3 (w2.heap.size + 1) 65 #[.func (.func 17) #[] #[.pointer (some ⟨w2.heap.size, 0, none⟩)]] := by rw [hw3]; exact setRow_heap _ _ _ _ _ _ kn
  have hz3 : w2.heap.size + 1 < w3.heap.size := KRP.lt
  obtain ⟨bf, hbf⟩ : ∃ bf, w2.heap.size = bf := ⟨_, rfl⟩
  have HB3 := Lib.hid (HB2.out.next hb3)
  have HK3 := Lib.hid (HK2.out.next hb3)
  have hz2 : w'.heap.size < w2.heap.size := HK2.out.lt
  rw [hbf] at KFL KRP hz3 hz2 ⊢
  obtain ⟨base, hbase⟩ : ∃ base, w3.heap.size = base := ⟨_, rfl⟩
  have HFL3 : Hid (Flt w3 bf base (.slice none 0 0) 0) := Lib.hid ⟨KFL, [], World.ownsRow_nil _ _ _ _, fun u hu => by cases hu⟩
  have HR3 : Hid (RepAt w3 bf (bf + 1) w'.heap.size base #[.slice V nv cv, .slice none 0 0, .int .u8 mk, .int .i64 mnum, .string mnm, .slice mA mn mcap]) := Lib.hid ⟨KRP, HK3.out, by omega⟩
  have HBL : Hid (bf < base ∧ base ≤ w3.heap.size) := Lib.hid (by omega)
  clear hw3 hb3 KFL KRP HK2 HB2 kn hf3
  obtain ⟨z_1, T_1, F_1⟩ := HK3.out.open_
  go_upto_region 6 with fail
  clear T_1 z_1 F_1
  go_loopw [18] (fun v18 wr => ∃ (j : Nat) (qc : Value) (nc : Nat), j ≤ nv ∧ v18 = .int .i64 j ∧ Flt wr bf base qc nc ∧ nc ≤ j ∧ Emt bf w3 wr (.slice none 0 0) qc) (fun v _ => nv - (intOf v).toNat)
  case atStart => exact ⟨0, _, 0, Nat.zero_le _, rfl, HFL3.out, Nat.le_refl _, Emt.refl _ _ _⟩
  case round =>
    obtain ⟨j, qc, nc, hj, rfl, hfc, hnc, hec⟩ := hrel
    have HFC := Lib.hid hfc; have HEM := Lib.hid hec
    have HRr := Lib.hid (HR3.out.emt HFL3.out hec)
    have HBr : Hid (Below B w wr) := Lib.hid ((HB.out.trans (HB3.out.mono hBw')).trans (hec.1.below (by omega) (fun kk hk => by rcases hk with e | e; omega; cases e)))
    have hzr := hec.1.size
    have HQL : Hid (∀ kk, qc.ownBlock = some kk → base ≤ kk ∧ kk < wr.heap.size) := Lib.hid fun kk hk => by obtain ⟨xs, ho, _⟩ := HFC.out.own; exact own_gE ho hk
    clear hfc hec
    by_cases hjn : j < nv
    · obtain ⟨v, hvj⟩ : ∃ v, vs[j]? = some v := ⟨_, List.getElem?_eq_getElem (by have := HNV.out; omega)⟩
      obtain ⟨g, o, hA2, hgB, c0, c1, c2⟩ := (HV.out.next HBr.out) j v hvj
      subst hA2
      obtain ⟨nm, k, len⟩ := v
      dsimp only at c0 c1 c2
      have j0 : (0 : Int) ≤ (j : Int) := by omega
      have j1 : (j : Int) < (nv : Int) := by omega
      have j2 : j ≤ cv := by omega
      have HFS := Lib.hid (HFR.out j nm (by omega))
      clear hvj
      go_upto_region 8 with fail
      refine wp_nameE ?_
      intro w5 hw5
      have hb5 : Below wr.heap.size wr w5 := by rw [hw5]; exact (by go_grown)
      have KY : Blk w5 wr.heap.size 45 #[.string nm, .int .u8 k, .int .i64 len] := by rw [hw5]; exact (by repeat' (first | assumption | exact Blk.new' (by simp) _ _ | apply Blk.alloc | apply Blk.drew))
      have HKY := Lib.hid KY; have HX5 := Lib.hid hb5
      have HB5 := Lib.hid (HBr.out.trans (hb5.mono (by omega)))
      have HR5 := Lib.hid (HRr.out.next hb5); have HFL5 := Lib.hid (HFC.out.next hb5)
      have HKF5 := Lib.hid HR5.out.f; have HKP5 := Lib.hid HR5.out.p
      have hz5 : w3.heap.size ≤ w5.heap.size := by have := hb5.size; omega
      have HNQ : Hid (∀ kk, kk = w'.heap.size ∨ kk = bf + 1 ∨ kk = wr.heap.size → ¬ (kk = bf ∨ qc.ownBlock = some kk)) := Lib.hid fun kk hk ho => by
        rcases ho with ho | ho
        · omega
        · have := HQL.out _ ho; omega
      clear hw5 c0 c1 c2 hb5 KY HRr HBr HFC HFR
      refine wp_region_held_drew (S := fun W => Fr (fun kk => kk = bf ∨ qc.ownBlock = some kk) w5 W) (by kernel_rfl) ((Fr.refl _ _).drew) (fun hH => ?_)
      refine wpAnyH_atN ?_
      intro wa hwa
      have hX : Below w5.heap.size w5 wa := by rw [hwa]; exact (Below.refl _ _).drew
      replace hH : Fr (fun kk => kk = bf ∨ qc.ownBlock = some kk) w5 wa := Fr.of hX
      clear hwa
      refine wpAnyH_take (i := 0) (v := ?_) rfl (by kernel_rfl) (by kernel_rfl) (by kernel_rfl) (fun _ _ _ h => h) (Or.inl ⟨by rfl, ?hy⟩) hH ?_
      case hy => (intro w9_ hS9; have t := (hS9.blk HKF5.out (HNQ.out _ (.inr (.inl rfl)))).cell; clear hS9; go_simp; try with_reducible rfl)
      (try simp only [Bk.PU, Act.put])
      refine wpAnyH_take (i := 1) (v := ?_) rfl (by kernel_rfl) (by kernel_rfl) (by kernel_rfl) (fun _ _ _ h => h) (Or.inl ⟨by rfl, ?hy⟩) hH ?_
      case hy => (intro w9_ hS9; clear hS9; go_simp; try with_reducible rfl)
      (try simp only [Bk.PU, Act.put])
      refine wpAnyH_take (i := 3) (v := ?_) rfl (by kernel_rfl) (by kernel_rfl) (by kernel_rfl) (fun _ _ _ h => h) (Or.inl ⟨by rfl, ?hy⟩) hH ?_
      case hy => (intro w9_ hS9; clear hS9; go_simp; try with_reducible rfl)
      (try simp only [Bk.PU, Act.put])
      refine wpAnyH_take (i := 4) (v := ?_) rfl (by kernel_rfl) (by kernel_rfl) (by kernel_rfl) (fun _ _ _ h => h) (Or.inl ⟨by rfl, ?hy⟩) hH ?_
      case hy => (intro w9_ hS9; have t := (hS9.blk HKY.out (HNQ.out _ (.inr (.inr rfl)))).cell; clear hS9; go_simp; try with_reducible rfl)
      (try simp only [Bk.PU, Act.put])
      refine wpAnyH_take (i := 5) (v := ?_) rfl (by kernel_rfl) (by kernel_rfl) (by kernel_rfl) (fun _ _ _ h => h) (Or.inl ⟨by rfl, ?hy⟩) hH ?_
      case hy => (intro w9_ hS9; clear hS9; go_simp; try with_reducible rfl)
      (try simp only [Bk.PU, Act.put])
      refine wpAnyH_take (i := 6) (v := ?_) rfl (by kernel_rfl) (by kernel_rfl) (by kernel_rfl) (fun _ _ _ h => h) (Or.inl ⟨by rfl, ?hy⟩) hH ?_
      case hy => (intro w9_ hS9; have t := (hS9.blk HKP5.out (HNQ.out _ (.inl rfl))).cell; clear hS9; go_simp; try with_reducible rfl)
      (try simp only [Bk.PU, Act.put])
      refine wpAnyH_take (i := 7) (v := ?_) rfl (by kernel_rfl) (by kernel_rfl) (by kernel_rfl) (fun _ _ _ h => h) (Or.inl ⟨by rfl, ?hy⟩) hH ?_
      case hy => (intro w9_ hS9; clear hS9; go_simp; try with_reducible rfl)
      (try simp only [Bk.PU, Act.put])
      refine wpAnyH_take (i := 8) (v := ?_) rfl (by kernel_rfl) (by kernel_rfl) (by kernel_rfl) (fun _ _ _ h => h) (Or.inl ⟨by rfl, ?hy⟩) hH ?_
      case hy => (intro w9_ hS9; clear hS9; go_simp; try with_reducible rfl)
      (try simp only [Bk.PU, Act.put])
      refine wpAnyH_take (i := 9) (v := ?_) rfl (by kernel_rfl) (by kernel_rfl) (by kernel_rfl) (fun _ _ _ h => h) (Or.inl ⟨by rfl, ?hy⟩) hH ?_
      case hy => (intro w9_ hS9; clear hS9; go_simp; try with_reducible rfl)
      (try simp only [Bk.PU, Act.put])
      refine wpAnyH_take (i := 10) (v := ?_) rfl (by kernel_rfl) (by kernel_rfl) (by kernel_rfl) (fun _ _ _ h => h) (Or.inl ⟨by rfl, ?hy⟩) hH ?_
      case hy => (intro w9_ hS9; have t := (hS9.blk HKY.out (HNQ.out _ (.inr (.inr rfl)))).cell; clear hS9; go_simp; try with_reducible rfl)
      (try simp only [Bk.PU, Act.put])
      refine wpAnyH_ready (rs := [2, 11]) (by kernel_rfl) (by simp) ?_
      refine AllReadyH.cons rfl (fun K hK => ?_) (AllReadyH.cons rfl (fun K hK => ?_) (AllReadyH.nil))
      · go_simp
        replace hH : Fr (fun kk => kk = bf ∨ qc.ownBlock = some kk) w5 _ := Fr.of (hX.alloc (by have := hX.size; omega) (.cells #[.int .i64 (j : Int)] 3))
        refine hK.out _ _ hH (fun hH => ?_)
        clear hK
        (try simp only [Bk.PU, Act.put])
        refine wpAnyH_atN ?_
        intro wb hwn
        have hbn : Below wa.heap.size wa wb := by rw [hwn]; exact (Below.refl _ _).alloc (Nat.le_refl _) _
        have HKI := Lib.hid (show Blk wb wa.heap.size 3 #[.int .i64 (j : Int)] by rw [hwn]; exact Blk.new _ _ _)
        replace hX := hX.next hbn
        replace hH : Fr (fun kk => kk = bf ∨ qc.ownBlock = some kk) w5 wb := Fr.of hX
        clear hwn hbn
        refine wpAnyH_ready (rs := [11]) (by kernel_rfl) (by simp) ?_
        refine AllReadyH.cons rfl (fun K hK => ?_) (AllReadyH.nil)
        go_simp
        refine (HFS.out _ (HB5.out.trans (hX.mono (by omega)))).mono ?_
        rintro en wc ⟨⟨err, rfl, her, _⟩, hbn⟩
        replace hX := hX.next hbn
        replace HKI := Lib.hid (HKI.out.next hbn)
        clear hbn
        refine hK.out _ _ (Fr.of hX) (fun hH => ?_)
        clear hK
        (try simp only [Bk.PU, Act.put])
        refine wpAnyH_ready (rs := [12]) (by kernel_rfl) (by simp) ?_
        refine AllReadyH.cons rfl (fun K hK => ?_) (AllReadyH.nil)
        go_simp
        refine (e_report (HFL5.out.next hX) HBL.out.1 (Nat.le_trans HBL.out.2 (Nat.le_trans hz5 hX.size)) (by omega) (-1) err nm (l := [(j : Int)]) (by simp) (sl_blk1L HKI.out)).mono ?_
        rintro en w8 ⟨rfl, hrep⟩
        refine hK.out _ _ ((Fr.of hX).trans (by rcases hrep with ⟨_, hz⟩ | ⟨_, _, hz⟩; exact Fr.of hz; exact hz.1)) (fun hH => ?_)
        clear hK
        (try simp only [Bk.PU, Act.put])
        refine wpAnyH_done (by kernel_rfl) ?_ _
        have HREP := Lib.hid hrep; have HXX := Lib.hid hX
        clear hX hH hrep
        go_wp2_with fail
        rcases HREP.out with ⟨_, hbz⟩ | ⟨q8, hf8, he8⟩
        · have hbw := HXX.out.next hbz
          exact ⟨⟨j + 1, qc, nc, by omega, by go_num, HFL5.out.next hbw, by omega, HEM.out.trans ⟨Fr.of (HX5.out.next hbw), .inl rfl⟩⟩, by simp [intOf]; omega⟩
        · exact ⟨⟨j + 1, q8, nc + 1, by omega, by go_num, hf8, by omega, HEM.out.trans (Emt.pre (HX5.out.next HXX.out) he8)⟩, by simp [intOf]; omega⟩
      · go_simp
        refine (HFS.out _ (HB5.out.trans (hX.mono (by omega)))).mono ?_
        rintro en wb ⟨⟨err, rfl, her, _⟩, hbn⟩
        replace hX := hX.next hbn
        clear hbn
        refine hK.out _ _ (Fr.of hX) (fun hH => ?_)
        clear hK
        (try simp only [Bk.PU, Act.put])
        refine wpAnyH_ready (rs := [2]) (by kernel_rfl) (by simp) ?_
        refine AllReadyH.cons rfl (fun K hK => ?_) (AllReadyH.nil)
        go_simp
        replace hH : Fr (fun kk => kk = bf ∨ qc.ownBlock = some kk) w5 _ := Fr.of (hX.alloc (by have := hX.size; omega) (.cells #[.int .i64 (j : Int)] 3))
        refine hK.out _ _ hH (fun hH => ?_)
        clear hK
        (try simp only [Bk.PU, Act.put])
        refine wpAnyH_atN ?_
        intro wc hwn
        have hbn : Below wb.heap.size wb wc := by rw [hwn]; exact (Below.refl _ _).alloc (Nat.le_refl _) _
        have HKI := Lib.hid (show Blk wc wb.heap.size 3 #[.int .i64 (j : Int)] by rw [hwn]; exact Blk.new _ _ _)
        replace hX := hX.next hbn
        replace hH : Fr (fun kk => kk = bf ∨ qc.ownBlock = some kk) w5 wc := Fr.of hX
        clear hwn hbn
        refine wpAnyH_ready (rs := [12]) (by kernel_rfl) (by simp) ?_
        refine AllReadyH.cons rfl (fun K hK => ?_) (AllReadyH.nil)
        go_simp
        refine (e_report (HFL5.out.next hX) HBL.out.1 (Nat.le_trans HBL.out.2 (Nat.le_trans hz5 hX.size)) (by omega) (-1) err nm (l := [(j : Int)]) (by simp) (sl_blk1L HKI.out)).mono ?_
        rintro en w8 ⟨rfl, hrep⟩
        refine hK.out _ _ ((Fr.of hX).trans (by rcases hrep with ⟨_, hz⟩ | ⟨_, _, hz⟩; exact Fr.of hz; exact hz.1)) (fun hH => ?_)
        clear hK
        (try simp only [Bk.PU, Act.put])
        refine wpAnyH_done (by kernel_rfl) ?_ _
        have HREP := Lib.hid hrep; have HXX := Lib.hid hX
        clear hX hH hrep
        go_wp2_with fail
        rcases HREP.out with ⟨_, hbz⟩ | ⟨q8, hf8, he8⟩
        · have hbw := HXX.out.next hbz
          exact ⟨⟨j + 1, qc, nc, by omega, by go_num, HFL5.out.next hbw, by omega, HEM.out.trans ⟨Fr.of (HX5.out.next hbw), .inl rfl⟩⟩, by simp [intOf]; omega⟩
        · exact ⟨⟨j + 1, q8, nc + 1, by omega, by go_num, hf8, by omega, HEM.out.trans (Emt.pre (HX5.out.next HXX.out) he8)⟩, by simp [intOf]; omega⟩
    · obtain rfl : j = nv := by omega
      obtain ⟨z_1, T_1, F_1⟩ := HRr.out.p.open_
      go_upto_region 11 with fail
      clear T_1 z_1 F_1
      obtain ⟨w7, hw7⟩ : ∃ w7, wr = w7 := ⟨_, rfl⟩
      rw [hw7] at HFC HEM HRr HBr hzr HQL ⊢
      clear hw7
      go_loopw [40] (fun v40 wr => v40 = .int .i64 0 ∧ w7 = wr) (fun _ _ => 0)
      case atStart => exact ⟨rfl, rfl⟩
      case round =>
        obtain ⟨rfl, rfl⟩ := hrel
        obtain ⟨z_1, T_1, F_1⟩ := HRr.out.p.open_
        go_wp2_with fail
        refine (HVIS.out w7 bf (bf + 1) w'.heap.size base qc nc _ [] HBr.out (by omega) (by omega) HRr.out HFC.out (by omega) Sl.nil (by simp; omega)).mono ?_
        rintro en w8 ⟨rfl, q8, n8, hf8, hn8, hk8, he8⟩
        have HF8 := Lib.hid hf8; have HK8 := Lib.hid hk8
        have hbz : Below w'.heap.size w' w8 := HB3.out.trans (((HEM.out.trans he8).1).below (by omega) (fun kk hk => by rcases hk with e | e; omega; cases e))
        have HBZ := Lib.hid hbz
        obtain ⟨A8, c8, rfl⟩ := own_form hf8.own.choose_spec.1
        obtain ⟨z_f, T_f, F_f⟩ := HF8.out.blk.open_
        clear T_1 z_1 F_1 hf8 hk8 he8 hbz
        go_wp2_with fail
        go_ret
        exact ⟨⟨A8, n8, c8, rfl, fun h => HK8.out (by omega)⟩, HBZ.out⟩
end Go.Proofs.YtbijhlgdilkopaaGreatDoor
