/- Several texts in one: EgVa EgVv EgVx. -/
import Derived.Test.YtbijhlgdilkopaaDoorEwX
import Derived.Test.YtbijhlgdilkopaaDoorEcX
import Derived.Test.YtbijhlgdilkopaaDoorCpA
set_option linter.unusedVariables false
set_option linter.unusedSimpArgs false
/- The value of an expression: eval.Expr with the law's lookup. -/
set_option linter.unusedVariables false
set_option linter.unusedSimpArgs false
set_option maxRecDepth 100000
set_option maxHeartbeats 4000000
namespace Bk
open Go Go.RowKit
theorem look_first : ∀ {vs : List Vr} {cs : List (List Int)} {i : Nat} {v : Vr} {c : List Int} {s : ByteArray}, (∀ p u, p < i → vs[p]? = some u → (u.nm.toList == s.toList) = false) → vs[i]? = some v → cs[i]? = some c → (v.nm.toList == s.toList) = true → lookV vs cs s = c
  | [], _, i, v, c, s, _, h, _, _ => by simp at h
  | v :: vs, [], i, u, c, s, _, _, h, _ => by simp at h
  | v :: vs, c :: cs, i, u, d, s, hd, h1, h2, h3 => by
    simp only [lookV]
    cases i with
    | zero =>
      simp at h1 h2
      subst h1; subst h2
      rw [if_pos h3]
    | succ i =>
      rw [if_neg (by rw [hd 0 v (by omega) rfl]; decide)]
      exact look_first (i := i) (fun p u hp hu => hd (p + 1) u (by omega) (by simpa using hu)) (by simpa using h1) (by simpa using h2) h3
/-- Contents that a call has returned, in old memory. -/
def Cont (w : World) (B : Nat) (v : Value) (c : List Int) : Prop := ∃ A cap, v = .slice A c.length cap ∧ IntsAt w B A c
end Bk
namespace Go.Proofs.YtbijhlgdilkopaaDoor
open Go.RowKit Bk
theorem e_Lookup {w : World} {B : Nat} (hBw : B ≤ w.heap.size) {V : Option Addr} {nv cv : Nat} {vs : List Vr} (hv : VsAt w B V vs) (hvn : vs.length = nv) (hnv : nv ≤ 1000000) {C : Option Addr} {nc cc : Nat} {cs : List (List Int)} (hc : CsAt w B C cs) (hcn : cs.length = nc) (hf : nc = nv) (s : ByteArray) (hk : ∃ v ∈ vs, v.nm = s) (w' : World) (hb : Below B w w') :
    Calls Tryd.prog 40 #[.slice V nv cv, .slice C nc cc, .string s] w' fun e w'' => ∃ u, e = .returned (.tuple #[u, .bool true]) ∧ Cont w B u (lookV vs cs s) ∧ Below w'.heap.size w' w'' := by
  have HV := Lib.hid hv; have HVN := Lib.hid hvn; have HC := Lib.hid hc; have HCN := Lib.hid hcn; have HF := Lib.hid hf; have HK := Lib.hid hk; have HB := Lib.hid hb
  have h1 : nv ≤ nc := by omega
  clear hv hvn hc hcn hf hk hb
  go_enter Tryd.func40, Tryd.ntmps40
  go_upto_region 2 with fail
  go_loopw [8] (fun v8 wr => ∃ i : Nat, i ≤ nv ∧ v8 = .int .i64 i ∧ (∀ p u, p < i → vs[p]? = some u → (u.nm.toList == s.toList) = false) ∧ w' = wr) (fun v _ => nv - (intOf v).toNat)
  case atStart => exact ⟨0, Nat.zero_le _, rfl, fun p u h => absurd h (Nat.not_lt_zero _), rfl⟩
  case round =>
    obtain ⟨i, hi, rfl, hpre, rfl⟩ := hrel
    have HP := Lib.hid hpre
    clear hpre
    by_cases hlt : i < nv
    · have i0 : (0 : Int) ≤ (i : Int) := by omega
      have i1 : (i : Int) < (nv : Int) := by omega
      have i2 : (i : Int) < (nc : Int) := by omega
      obtain ⟨v, hvi⟩ : ∃ v, vs[i]? = some v := ⟨_, List.getElem?_eq_getElem (by have := HVN.out; omega)⟩
      obtain ⟨c, hci⟩ : ∃ c, cs[i]? = some c := ⟨_, List.getElem?_eq_getElem (by have := HCN.out; omega)⟩
      obtain ⟨g, o, hA2, hgB, c0, _, _⟩ := (HV.out.next HB.out) i v hvi
      obtain ⟨g', o', A', cap', hA3, hgB', d0, _, _, hci2⟩ := HC.out i c hci
      subst hA2; subst hA3
      have e0 := (HB.out.cell (p := ⟨g', o' + i, none⟩) hgB').trans d0
      have HVI := Lib.hid hvi; have HCI := Lib.hid hci; have HI2 := Lib.hid hci2
      obtain ⟨vn, vk, vl⟩ := v
      dsimp only at c0
      clear hvi hci d0 hci2
      obtain ⟨r, hr⟩ : ∃ r, (vn.toList == s.toList) = r := ⟨_, rfl⟩
      have HR := Lib.hid hr
      clear hr
      go_upto_region 4 with fail
      go_cut [21] (fun v21 wx => v21 = .bool r ∧ w' = wx)
      case first =>
        go_wp2_with fail
        go_meet
        exact ⟨by rw [← HR.out], rfl⟩
      case rest =>
        obtain ⟨rfl, rfl⟩ := hcut
        cases r with
        | true =>
          go_wp2_with fail
          refine bodyPost_ret_by (results_tmp2 rfl _ _ _) rfl ?_
          have e := look_first (HP.out) HVI.out HCI.out HR.out
          exact ⟨_, rfl, ⟨A', cap', by rw [e]; rfl, by rw [e]; exact HI2.out⟩, Below.refl _ _⟩
        | false =>
          go_wp2_with fail
          refine ⟨?_, by simp [intOf]; omega⟩
          have hstep : ∀ p u, p < i + 1 → vs[p]? = some u → (u.nm.toList == s.toList) = false := fun p u hp hu => (Nat.lt_succ_iff_lt_or_eq.1 hp).elim (fun h => HP.out p u h hu) (fun h => by subst h; rw [HVI.out] at hu; injection hu with hu; subst hu; exact HR.out)
          exact ⟨i + 1, by omega, by go_num, hstep, trivial⟩
    · exfalso
      obtain ⟨v, hv, hs⟩ := HK.out
      obtain ⟨p, hp⟩ := List.getElem?_of_mem hv
      have := HP.out p v (by have := (List.getElem?_eq_some_iff.1 hp).1; have := HVN.out; omega) hp
      rw [hs] at this; simp at this
theorem e_Look1 {w : World} {B : Nat} (hBw : B ≤ w.heap.size) {x : Nd} {V : Option Addr} {nv cv : Nat} {vs : List Vr} (hv : VsAt w B V vs) (hvn : vs.length = nv) (hnv : nv ≤ 1000000) {C : Option Addr} {nc cc : Nat} {cs : List (List Int)} {fp sb : Int} {G : Option Addr} {ng cg : Nat} {E : Option Addr} {ne ce : Nat} (hc : CsAt w B C cs) (hcn : cs.length = nc) (hf : nc = nv) {bx : Nat} {t : TypeId} (hx : Blk w bx t #[.int .u8 x.k, .int .i64 x.num, .string x.nm, .slice x.A x.n x.cap, .slice V nv cv, .slice C nc cc, .int .i64 fp, .int .i64 sb, .slice G ng cg, .slice E ne ce]) (hbx : bx < B) (s : ByteArray) (hk : ∃ v ∈ vs, v.nm = s) (w' : World) (hb : Below B w w') :
    Calls Tryd.prog 39 #[.string s, .pointer (some ⟨bx, 0, none⟩)] w' fun e w'' => ∃ u, e = .returned (.tuple #[u, .bool true]) ∧ Cont w B u (lookV vs cs s) ∧ Below w'.heap.size w' w'' := by
  have HL : Hid (Calls Tryd.prog 40 #[.slice V nv cv, .slice C nc cc, .string s] w' fun e w'' => ∃ u, e = .returned (.tuple #[u, .bool true]) ∧ Cont w B u (lookV vs cs s) ∧ Below w'.heap.size w' w'') := Lib.hid (e_Lookup hBw hv hvn hnv hc hcn hf s hk w' hb)
  have K := hx.below hb hbx
  obtain ⟨z_1, T_1, F_1⟩ := K.open_
  clear hv hvn hc hcn hf hk hb hx K
  go_enter Tryd.func39, Tryd.ntmps39
  go_wp2_with fail
  refine HL.out.mono ?_
  rintro en w2 ⟨u, rfl, hu, hb2⟩
  have HU := Lib.hid hu
  clear T_1 z_1 F_1 hu
  go_wp2_with fail
  refine bodyPost_ret_by (results_tmp2 rfl _ _ _) rfl ?_
  exact ⟨u, rfl, HU.out, hb2⟩
theorem c_Unary (op x : Int) (hop : op = 6 ∨ op = 7) (w : World) :
    Calls Tryd.prog 71 #[.int .u8 op, .int .i64 x] w fun e w' => e = .returned (.tuple #[.int .i64 (if op = 6 then Go.RowKit.wrap64 (-x) else if x = 0 then 1 else 0), .int .i64 0]) ∧ w = w' := by
  rcases hop with rfl | rfl
  · go_enter Tryd.func71, Tryd.ntmps71
    go_wp2_with fail
    refine bodyPost_ret_by (results_tmp2 rfl _ _ _) rfl ?_
    exact ⟨rfl, rfl⟩
  · go_enter Tryd.func71, Tryd.ntmps71
    go_wp2_with fail
    refine (ca_number _ _).mono ?_
    rintro en w2 ⟨rfl, rfl⟩
    go_wp2_with fail
    all_goals (refine bodyPost_ret_by (results_tmp2 rfl _ _ _) rfl ?_; first | exact ⟨rfl, rfl⟩ | simp_all [Array.getD])
/-- What eval.value returns at a node. -/
def ValAt (w : World) (B bx : Nat) (x : Nd) (r : Int × Int) : Prop := ∀ w', Below B w w' → Calls Tryd.prog 60 #[.agg #[.int .u8 x.k, .int .i64 x.num, .string x.nm, .slice x.A x.n x.cap], (.func (.func 39) #[] #[.pointer (some ⟨bx, 0, none⟩)])] w' fun e w'' => e = .returned (.tuple #[.int .i64 r.1, .int .i64 r.2]) ∧ Below w'.heap.size w' w''
def LookAt (w : World) (B bx : Nat) (vs : List Vr) (cs : List (List Int)) : Prop := ∀ s, (∃ v ∈ vs, v.nm = s) → ∀ w', Below B w w' → Calls Tryd.prog 39 #[.string s, .pointer (some ⟨bx, 0, none⟩)] w' fun e w'' => ∃ u, e = .returned (.tuple #[u, .bool true]) ∧ Cont w B u (lookV vs cs s) ∧ Below w'.heap.size w' w''
theorem e_variable2 {w : World} {B bx : Nat} (hBw : B ≤ w.heap.size) {vs : List Vr} {cs : List (List Int)} (hL : LookAt w B bx vs cs) (x : Nd) (hk : x.k = 2) (hd : ∃ v ∈ vs, v.nm = x.nm) {c : List Int} (hl : lookV vs cs x.nm = c) {y : Int} (hy : c = [y]) (w' : World) (hb : Below B w w') :
    Calls Tryd.prog 70 #[.agg #[.int .u8 x.k, .int .i64 x.num, .string x.nm, .slice x.A x.n x.cap], (.func (.func 39) #[] #[.pointer (some ⟨bx, 0, none⟩)])] w' fun e w'' => e = .returned (.tuple #[.int .i64 y, .int .i64 0]) ∧ Below w'.heap.size w' w'' := by
  have HL := Lib.hid (hL x.nm hd); have HB := Lib.hid hb
  rw [hl] at HL
  subst hy
  obtain ⟨k, num, nm, A, n, cap⟩ := x
  dsimp only at *
  subst hk
  have eg' : ∀ (args : Array Value) (W : World), (callFunc 39 args).run Tryd.prog W = .ok (.enter 39 args) W := fun _ _ => rfl
  have hBw' : B ≤ w'.heap.size := by have := hb.size; omega
  clear hL hb hd hl
  go_enter Tryd.func70, Tryd.ntmps70
  go_upto_region 1 with fail
  refine wp_nameE ?_
  intro w1 hw1
  have hb1 : Below w'.heap.size w' w1 := by rw [hw1]; exact (by go_grown)
  have K1 : Blk w1 w'.heap.size 24 #[.int .u8 2, .int .i64 num, .string nm, .slice A n cap] := by rw [hw1]; exact (by repeat' (first | assumption | exact Blk.new' (by simp) _ _ | apply Blk.alloc | apply Blk.drew))
  have HK1 := Lib.hid K1; have HB1 := Lib.hid hb1
  clear hw1 hb1
  obtain ⟨z_1, T_1, F_1⟩ := K1.open_
  clear K1
  go_wp2_with fail
  refine (HL.out w1 (HB.out.trans (HB1.out.mono hBw'))).mono ?_
  rintro en w2 ⟨u, rfl, ⟨Au, cu, rfl, hu⟩, hb2⟩
  have HB2 := Lib.hid (HB1.out.next hb2); have HK2 := Lib.hid (HK1.out.next hb2); have HU := Lib.hid hu
  have HW2 := Lib.hid (HB.out.trans (HB2.out.mono hBw'))
  clear T_1 z_1 F_1 hb2 hu
  obtain ⟨z_1, T_1, F_1⟩ := HK2.out.open_
  obtain ⟨g, o, hA, hgB, d0⟩ := HU.out 0 (by simp)
  subst hA
  have e0 := (HW2.out.cell (p := ⟨g, o + 0, none⟩) hgB).trans d0
  rw [Nat.add_zero] at e0
  simp only [List.length_cons, List.length_nil, Nat.zero_add, List.getElem_cons_zero] at e0 ⊢
  clear d0
  go_wp2_with fail
  refine bodyPost_ret_by (results_tmp2 rfl _ _ _) rfl ?_
  exact ⟨rfl, HB2.out⟩
theorem e_variable5 {w : World} {B bx : Nat} (hBw : B ≤ w.heap.size) {vs : List Vr} {cs : List (List Int)} (hL : LookAt w B bx vs cs) (x : Nd) (hk : x.k = 5) (hd : ∃ v ∈ vs, v.nm = x.nm) {c : List Int} (hl : lookV vs cs x.nm = c)  (w' : World) (hb : Below B w w') :
    Calls Tryd.prog 70 #[.agg #[.int .u8 x.k, .int .i64 x.num, .string x.nm, .slice x.A x.n x.cap], (.func (.func 39) #[] #[.pointer (some ⟨bx, 0, none⟩)])] w' fun e w'' => e = .returned (.tuple #[.int .i64 (c.length : Int), .int .i64 0]) ∧ Below w'.heap.size w' w'' := by
  have HL := Lib.hid (hL x.nm hd); have HB := Lib.hid hb
  rw [hl] at HL
  obtain ⟨k, num, nm, A, n, cap⟩ := x
  dsimp only at *
  subst hk
  have eg' : ∀ (args : Array Value) (W : World), (callFunc 39 args).run Tryd.prog W = .ok (.enter 39 args) W := fun _ _ => rfl
  have hBw' : B ≤ w'.heap.size := by have := hb.size; omega
  clear hL hb hd hl
  go_enter Tryd.func70, Tryd.ntmps70
  go_upto_region 1 with fail
  refine wp_nameE ?_
  intro w1 hw1
  have hb1 : Below w'.heap.size w' w1 := by rw [hw1]; exact (by go_grown)
  have K1 : Blk w1 w'.heap.size 24 #[.int .u8 5, .int .i64 num, .string nm, .slice A n cap] := by rw [hw1]; exact (by repeat' (first | assumption | exact Blk.new' (by simp) _ _ | apply Blk.alloc | apply Blk.drew))
  have HK1 := Lib.hid K1; have HB1 := Lib.hid hb1
  clear hw1 hb1
  obtain ⟨z_1, T_1, F_1⟩ := K1.open_
  clear K1
  go_wp2_with fail
  refine (HL.out w1 (HB.out.trans (HB1.out.mono hBw'))).mono ?_
  rintro en w2 ⟨u, rfl, ⟨Au, cu, rfl, hu⟩, hb2⟩
  have HB2 := Lib.hid (HB1.out.next hb2); have HK2 := Lib.hid (HK1.out.next hb2); have HU := Lib.hid hu
  have HW2 := Lib.hid (HB.out.trans (HB2.out.mono hBw'))
  clear T_1 z_1 F_1 hb2 hu
  obtain ⟨z_1, T_1, F_1⟩ := HK2.out.open_
  go_wp2_with fail
  refine bodyPost_ret_by (results_tmp2 rfl _ _ _) rfl ?_
  exact ⟨rfl, HB2.out⟩
theorem e_variable40 {w : World} {B bx : Nat} (hBw : B ≤ w.heap.size) {vs : List Vr} {cs : List (List Int)} (hL : LookAt w B bx vs cs) (x : Nd) (hk : x.k = 4) (hd : ∃ v ∈ vs, v.nm = x.nm) {c : List Int} (hl : lookV vs cs x.nm = c) (h0 : c.length = 0) (w' : World) (hb : Below B w w') :
    Calls Tryd.prog 70 #[.agg #[.int .u8 x.k, .int .i64 x.num, .string x.nm, .slice x.A x.n x.cap], (.func (.func 39) #[] #[.pointer (some ⟨bx, 0, none⟩)])] w' fun e w'' => e = .returned (.tuple #[.int .i64 0, .int .i64 13]) ∧ Below w'.heap.size w' w'' := by
  have HL := Lib.hid (hL x.nm hd); have HB := Lib.hid hb
  rw [hl] at HL
  have H0 := Lib.hid h0
  clear h0
  obtain ⟨k, num, nm, A, n, cap⟩ := x
  dsimp only at *
  subst hk
  have eg' : ∀ (args : Array Value) (W : World), (callFunc 39 args).run Tryd.prog W = .ok (.enter 39 args) W := fun _ _ => rfl
  have hBw' : B ≤ w'.heap.size := by have := hb.size; omega
  clear hL hb hd hl
  go_enter Tryd.func70, Tryd.ntmps70
  go_upto_region 1 with fail
  refine wp_nameE ?_
  intro w1 hw1
  have hb1 : Below w'.heap.size w' w1 := by rw [hw1]; exact (by go_grown)
  have K1 : Blk w1 w'.heap.size 24 #[.int .u8 4, .int .i64 num, .string nm, .slice A n cap] := by rw [hw1]; exact (by repeat' (first | assumption | exact Blk.new' (by simp) _ _ | apply Blk.alloc | apply Blk.drew))
  have HK1 := Lib.hid K1; have HB1 := Lib.hid hb1
  clear hw1 hb1
  obtain ⟨z_1, T_1, F_1⟩ := K1.open_
  clear K1
  go_wp2_with fail
  refine (HL.out w1 (HB.out.trans (HB1.out.mono hBw'))).mono ?_
  rintro en w2 ⟨u, rfl, ⟨Au, cu, rfl, hu⟩, hb2⟩
  have HB2 := Lib.hid (HB1.out.next hb2); have HK2 := Lib.hid (HK1.out.next hb2); have HU := Lib.hid hu
  have HW2 := Lib.hid (HB.out.trans (HB2.out.mono hBw'))
  clear T_1 z_1 F_1 hb2 hu
  obtain ⟨z_1, T_1, F_1⟩ := HK2.out.open_
  rw [H0.out]
  go_wp2_with fail
  refine bodyPost_ret_by (results_tmp2 rfl _ _ _) rfl ?_
  exact ⟨rfl, HB2.out⟩
theorem e_variable41 {w : World} {B bx : Nat} (hBw : B ≤ w.heap.size) {vs : List Vr} {cs : List (List Int)} (hL : LookAt w B bx vs cs) (x : Nd) (hk : x.k = 4) (hd : ∃ v ∈ vs, v.nm = x.nm) {c : List Int} (hl : lookV vs cs x.nm = c) {m : Nat} (h0 : c.length = m + 1) (hm : m ≤ 1000000) (w' : World) (hb : Below B w w') :
    Calls Tryd.prog 70 #[.agg #[.int .u8 x.k, .int .i64 x.num, .string x.nm, .slice x.A x.n x.cap], (.func (.func 39) #[] #[.pointer (some ⟨bx, 0, none⟩)])] w' fun e w'' => e = .returned (.tuple #[.int .i64 (c.getLastD 0), .int .i64 0]) ∧ Below w'.heap.size w' w'' := by
  have HL := Lib.hid (hL x.nm hd); have HB := Lib.hid hb
  rw [hl] at HL
  have H0 := Lib.hid h0
  obtain ⟨y, hy⟩ : ∃ y, c.getLastD 0 = y := ⟨_, rfl⟩
  have hy2 : c[m]'(by omega) = y := by rw [← hy, List.getLastD_eq_getLast?, List.getLast?_eq_getElem?, List.getElem?_eq_getElem (by omega)]; simp [h0]
  have HY := Lib.hid hy2
  rw [hy]
  clear hy hy2
  obtain ⟨k, num, nm, A, n, cap⟩ := x
  dsimp only at *
  subst hk
  have eg' : ∀ (args : Array Value) (W : World), (callFunc 39 args).run Tryd.prog W = .ok (.enter 39 args) W := fun _ _ => rfl
  have hBw' : B ≤ w'.heap.size := by have := hb.size; omega
  clear hL hb hd hl
  go_enter Tryd.func70, Tryd.ntmps70
  go_upto_region 1 with fail
  refine wp_nameE ?_
  intro w1 hw1
  have hb1 : Below w'.heap.size w' w1 := by rw [hw1]; exact (by go_grown)
  have K1 : Blk w1 w'.heap.size 24 #[.int .u8 4, .int .i64 num, .string nm, .slice A n cap] := by rw [hw1]; exact (by repeat' (first | assumption | exact Blk.new' (by simp) _ _ | apply Blk.alloc | apply Blk.drew))
  have HK1 := Lib.hid K1; have HB1 := Lib.hid hb1
  clear hw1 hb1
  obtain ⟨z_1, T_1, F_1⟩ := K1.open_
  clear K1
  go_wp2_with fail
  refine (HL.out w1 (HB.out.trans (HB1.out.mono hBw'))).mono ?_
  rintro en w2 ⟨u, rfl, ⟨Au, cu, rfl, hu⟩, hb2⟩
  have HB2 := Lib.hid (HB1.out.next hb2); have HK2 := Lib.hid (HK1.out.next hb2); have HU := Lib.hid hu
  have HW2 := Lib.hid (HB.out.trans (HB2.out.mono hBw'))
  clear T_1 z_1 F_1 hb2 hu
  obtain ⟨z_1, T_1, F_1⟩ := HK2.out.open_
  obtain ⟨g, o, hA, hgB, d0⟩ := HU.out m (by have := H0.out; omega)
  subst hA
  rw [HY.out] at d0
  have e0 := (HW2.out.cell (p := ⟨g, o + m, none⟩) hgB).trans d0
  rw [H0.out]
  have m0 : (0 : Int) ≤ (m : Int) := by omega
  have m1 : (m : Int) < (m : Int) + 1 := by omega
  have m2 : ((m : Int) + 1 == 0) = false := by simp; omega
  clear d0
  go_wp2_with fail
  refine bodyPost_ret_by (results_tmp2 rfl _ _ _) rfl ?_
  exact ⟨rfl, HB2.out⟩
theorem e_variable3e {w : World} {B bx : Nat} (hBw : B ≤ w.heap.size) {vs : List Vr} {cs : List (List Int)} (hL : LookAt w B bx vs cs) (x : Nd) (hk : x.k = 3) (hd : ∃ v ∈ vs, v.nm = x.nm) {c : List Int} (hl : lookV vs cs x.nm = c) {y : Nd} (hky : Kid w B x 0 y) (hn : x.n = 1) {r : Int × Int} (ih : ValAt w B bx y r) (he : r.2 ≠ 0) (w' : World) (hb : Below B w w') :
    Calls Tryd.prog 70 #[.agg #[.int .u8 x.k, .int .i64 x.num, .string x.nm, .slice x.A x.n x.cap], (.func (.func 39) #[] #[.pointer (some ⟨bx, 0, none⟩)])] w' fun e w'' => e = .returned (.tuple #[.int .i64 0, .int .i64 r.2]) ∧ Below w'.heap.size w' w'' := by
  have HL := Lib.hid (hL x.nm hd); have HB := Lib.hid hb
  rw [hl] at HL
  obtain ⟨gk, ok, hAk, hgk, c0, c1, c2, c3⟩ := hky.cells hb
  have HIH := Lib.hid ih
  clear ih hky
  obtain ⟨k, num, nm, A, n, cap⟩ := x
  dsimp only at *
  subst hk
  subst hAk; subst hn
  have C0 := Lib.hid c0; have C1 := Lib.hid c1; have C2 := Lib.hid c2; have C3 := Lib.hid c3
  clear c0 c1 c2 c3
  have eg' : ∀ (args : Array Value) (W : World), (callFunc 39 args).run Tryd.prog W = .ok (.enter 39 args) W := fun _ _ => rfl
  have hBw' : B ≤ w'.heap.size := by have := hb.size; omega
  clear hL hb hd hl
  go_enter Tryd.func70, Tryd.ntmps70
  go_upto_region 1 with fail
  refine wp_nameE ?_
  intro w1 hw1
  have hb1 : Below w'.heap.size w' w1 := by rw [hw1]; exact (by go_grown)
  have K1 : Blk w1 w'.heap.size 24 #[.int .u8 3, .int .i64 num, .string nm, .slice (some ⟨gk, ok, none⟩) 1 cap] := by rw [hw1]; exact (by repeat' (first | assumption | exact Blk.new' (by simp) _ _ | apply Blk.alloc | apply Blk.drew))
  have HK1 := Lib.hid K1; have HB1 := Lib.hid hb1
  clear hw1 hb1
  obtain ⟨z_1, T_1, F_1⟩ := K1.open_
  clear K1
  go_wp2_with fail
  refine (HL.out w1 (HB.out.trans (HB1.out.mono hBw'))).mono ?_
  rintro en w2 ⟨u, rfl, ⟨Au, cu, rfl, hu⟩, hb2⟩
  have HB2 := Lib.hid (HB1.out.next hb2); have HK2 := Lib.hid (HK1.out.next hb2); have HU := Lib.hid hu
  have HW2 := Lib.hid (HB.out.trans (HB2.out.mono hBw'))
  clear T_1 z_1 F_1 hb2 hu
  obtain ⟨z_1, T_1, F_1⟩ := HK2.out.open_
  have E0 := (HB2.out.cell (p := ⟨gk, ok + 0 * 4, none⟩) (by show gk < _; omega)).trans C0.out
  have E1 := (HB2.out.cell (p := ⟨gk, ok + 0 * 4 + 1, none⟩) (by show gk < _; omega)).trans C1.out
  have E2 := (HB2.out.cell (p := ⟨gk, ok + 0 * 4 + 2, none⟩) (by show gk < _; omega)).trans C2.out
  have E3 := (HB2.out.cell (p := ⟨gk, ok + 0 * 4 + 3, none⟩) (by show gk < _; omega)).trans C3.out
  rw [Nat.zero_mul, Nat.add_zero] at E0 E1 E2 E3
  go_wp2_with fail
  refine (HIH.out w2 HW2.out).mono ?_
  rintro en w3 ⟨rfl, hb3⟩
  have HB3 := Lib.hid (HB2.out.next hb3); have HW3 := Lib.hid (HB.out.trans ((HB2.out.next hb3).mono hBw'))
  clear T_1 z_1 F_1 hb3 E0 E1 E2 E3
  obtain ⟨rv, re⟩ := r
  dsimp only at *
  go_wp2_with fail
  refine bodyPost_ret_by (results_tmp2 rfl _ _ _) rfl ?_
  exact ⟨rfl, HB3.out⟩
theorem e_variable3o {w : World} {B bx : Nat} (hBw : B ≤ w.heap.size) {vs : List Vr} {cs : List (List Int)} (hL : LookAt w B bx vs cs) (x : Nd) (hk : x.k = 3) (hd : ∃ v ∈ vs, v.nm = x.nm) {c : List Int} (hl : lookV vs cs x.nm = c) {y : Nd} (hky : Kid w B x 0 y) (hn : x.n = 1) {r : Int × Int} (ih : ValAt w B bx y r) (he : r.2 = 0) (ho : r.1 < 0 ∨ (c.length : Int) ≤ r.1) (w' : World) (hb : Below B w w') :
    Calls Tryd.prog 70 #[.agg #[.int .u8 x.k, .int .i64 x.num, .string x.nm, .slice x.A x.n x.cap], (.func (.func 39) #[] #[.pointer (some ⟨bx, 0, none⟩)])] w' fun e w'' => e = .returned (.tuple #[.int .i64 0, .int .i64 12]) ∧ Below w'.heap.size w' w'' := by
  have HL := Lib.hid (hL x.nm hd); have HB := Lib.hid hb
  rw [hl] at HL
  obtain ⟨gk, ok, hAk, hgk, c0, c1, c2, c3⟩ := hky.cells hb
  have HIH := Lib.hid ih
  clear ih hky
  obtain ⟨k, num, nm, A, n, cap⟩ := x
  dsimp only at *
  subst hk
  subst hAk; subst hn
  have C0 := Lib.hid c0; have C1 := Lib.hid c1; have C2 := Lib.hid c2; have C3 := Lib.hid c3
  clear c0 c1 c2 c3
  have eg' : ∀ (args : Array Value) (W : World), (callFunc 39 args).run Tryd.prog W = .ok (.enter 39 args) W := fun _ _ => rfl
  have hBw' : B ≤ w'.heap.size := by have := hb.size; omega
  clear hL hb hd hl
  go_enter Tryd.func70, Tryd.ntmps70
  go_upto_region 1 with fail
  refine wp_nameE ?_
  intro w1 hw1
  have hb1 : Below w'.heap.size w' w1 := by rw [hw1]; exact (by go_grown)
  have K1 : Blk w1 w'.heap.size 24 #[.int .u8 3, .int .i64 num, .string nm, .slice (some ⟨gk, ok, none⟩) 1 cap] := by rw [hw1]; exact (by repeat' (first | assumption | exact Blk.new' (by simp) _ _ | apply Blk.alloc | apply Blk.drew))
  have HK1 := Lib.hid K1; have HB1 := Lib.hid hb1
  clear hw1 hb1
  obtain ⟨z_1, T_1, F_1⟩ := K1.open_
  clear K1
  go_wp2_with fail
  refine (HL.out w1 (HB.out.trans (HB1.out.mono hBw'))).mono ?_
  rintro en w2 ⟨u, rfl, ⟨Au, cu, rfl, hu⟩, hb2⟩
  have HB2 := Lib.hid (HB1.out.next hb2); have HK2 := Lib.hid (HK1.out.next hb2); have HU := Lib.hid hu
  have HW2 := Lib.hid (HB.out.trans (HB2.out.mono hBw'))
  clear T_1 z_1 F_1 hb2 hu
  obtain ⟨z_1, T_1, F_1⟩ := HK2.out.open_
  have E0 := (HB2.out.cell (p := ⟨gk, ok + 0 * 4, none⟩) (by show gk < _; omega)).trans C0.out
  have E1 := (HB2.out.cell (p := ⟨gk, ok + 0 * 4 + 1, none⟩) (by show gk < _; omega)).trans C1.out
  have E2 := (HB2.out.cell (p := ⟨gk, ok + 0 * 4 + 2, none⟩) (by show gk < _; omega)).trans C2.out
  have E3 := (HB2.out.cell (p := ⟨gk, ok + 0 * 4 + 3, none⟩) (by show gk < _; omega)).trans C3.out
  rw [Nat.zero_mul, Nat.add_zero] at E0 E1 E2 E3
  go_wp2_with fail
  refine (HIH.out w2 HW2.out).mono ?_
  rintro en w3 ⟨rfl, hb3⟩
  have HB3 := Lib.hid (HB2.out.next hb3); have HW3 := Lib.hid (HB.out.trans ((HB2.out.next hb3).mono hBw'))
  clear T_1 z_1 F_1 hb3 E0 E1 E2 E3
  obtain ⟨rv, re⟩ := r
  dsimp only at *
  subst he
  by_cases h1 : rv < 0
  · go_wp2_with fail
    refine bodyPost_ret_by (results_tmp2 rfl _ _ _) rfl ?_
    exact ⟨rfl, HB3.out⟩
  · have h2 : rv ≥ (c.length : Int) := by omega
    go_wp2_with fail
    refine bodyPost_ret_by (results_tmp2 rfl _ _ _) rfl ?_
    exact ⟨rfl, HB3.out⟩
theorem e_variable3 {w : World} {B bx : Nat} (hBw : B ≤ w.heap.size) {vs : List Vr} {cs : List (List Int)} (hL : LookAt w B bx vs cs) (x : Nd) (hk : x.k = 3) (hd : ∃ v ∈ vs, v.nm = x.nm) {c : List Int} (hl : lookV vs cs x.nm = c) {y : Nd} (hky : Kid w B x 0 y) (hn : x.n = 1) {r : Int × Int} (ih : ValAt w B bx y r) (he : r.2 = 0) {i : Nat} (hi : r.1 = (i : Int)) (hic : i < c.length) (w' : World) (hb : Below B w w') :
    Calls Tryd.prog 70 #[.agg #[.int .u8 x.k, .int .i64 x.num, .string x.nm, .slice x.A x.n x.cap], (.func (.func 39) #[] #[.pointer (some ⟨bx, 0, none⟩)])] w' fun e w'' => e = .returned (.tuple #[.int .i64 (c.getD i 0), .int .i64 0]) ∧ Below w'.heap.size w' w'' := by
  have HL := Lib.hid (hL x.nm hd); have HB := Lib.hid hb
  rw [hl] at HL
  obtain ⟨gk, ok, hAk, hgk, c0, c1, c2, c3⟩ := hky.cells hb
  have HIH := Lib.hid ih
  clear ih hky
  have hg : c.getD i 0 = c[i] := by rw [List.getD_eq_getElem?_getD, List.getElem?_eq_getElem hic]; rfl
  obtain ⟨y1, hy1⟩ : ∃ y1, c.getD i 0 = y1 := ⟨_, rfl⟩
  have HY1 : Hid (∀ h : i < c.length, c[i] = y1) := Lib.hid fun h => by rw [← hy1, hg]
  rw [hy1]
  clear hg hy1
  obtain ⟨k, num, nm, A, n, cap⟩ := x
  dsimp only at *
  subst hk
  subst hAk; subst hn
  have C0 := Lib.hid c0; have C1 := Lib.hid c1; have C2 := Lib.hid c2; have C3 := Lib.hid c3
  clear c0 c1 c2 c3
  have eg' : ∀ (args : Array Value) (W : World), (callFunc 39 args).run Tryd.prog W = .ok (.enter 39 args) W := fun _ _ => rfl
  have hBw' : B ≤ w'.heap.size := by have := hb.size; omega
  clear hL hb hd hl
  go_enter Tryd.func70, Tryd.ntmps70
  go_upto_region 1 with fail
  refine wp_nameE ?_
  intro w1 hw1
  have hb1 : Below w'.heap.size w' w1 := by rw [hw1]; exact (by go_grown)
  have K1 : Blk w1 w'.heap.size 24 #[.int .u8 3, .int .i64 num, .string nm, .slice (some ⟨gk, ok, none⟩) 1 cap] := by rw [hw1]; exact (by repeat' (first | assumption | exact Blk.new' (by simp) _ _ | apply Blk.alloc | apply Blk.drew))
  have HK1 := Lib.hid K1; have HB1 := Lib.hid hb1
  clear hw1 hb1
  obtain ⟨z_1, T_1, F_1⟩ := K1.open_
  clear K1
  go_wp2_with fail
  refine (HL.out w1 (HB.out.trans (HB1.out.mono hBw'))).mono ?_
  rintro en w2 ⟨u, rfl, ⟨Au, cu, rfl, hu⟩, hb2⟩
  have HB2 := Lib.hid (HB1.out.next hb2); have HK2 := Lib.hid (HK1.out.next hb2); have HU := Lib.hid hu
  have HW2 := Lib.hid (HB.out.trans (HB2.out.mono hBw'))
  clear T_1 z_1 F_1 hb2 hu
  obtain ⟨z_1, T_1, F_1⟩ := HK2.out.open_
  have E0 := (HB2.out.cell (p := ⟨gk, ok + 0 * 4, none⟩) (by show gk < _; omega)).trans C0.out
  have E1 := (HB2.out.cell (p := ⟨gk, ok + 0 * 4 + 1, none⟩) (by show gk < _; omega)).trans C1.out
  have E2 := (HB2.out.cell (p := ⟨gk, ok + 0 * 4 + 2, none⟩) (by show gk < _; omega)).trans C2.out
  have E3 := (HB2.out.cell (p := ⟨gk, ok + 0 * 4 + 3, none⟩) (by show gk < _; omega)).trans C3.out
  rw [Nat.zero_mul, Nat.add_zero] at E0 E1 E2 E3
  go_wp2_with fail
  refine (HIH.out w2 HW2.out).mono ?_
  rintro en w3 ⟨rfl, hb3⟩
  have HB3 := Lib.hid (HB2.out.next hb3); have HW3 := Lib.hid (HB.out.trans ((HB2.out.next hb3).mono hBw'))
  clear T_1 z_1 F_1 hb3 E0 E1 E2 E3
  obtain ⟨rv, re⟩ := r
  dsimp only at *
  subst he; subst hi
  obtain ⟨g, o, hA, hgB, d0⟩ := HU.out i hic
  rw [HY1.out hic] at d0
  subst hA
  have e0 := (HW3.out.cell (p := ⟨g, o + i, none⟩) hgB).trans d0
  obtain ⟨cl, hcl⟩ : ∃ cl, c.length = cl := ⟨_, rfl⟩
  rw [hcl] at hic ⊢
  have i0 : (0 : Int) ≤ (i : Int) := by omega
  have i1 : (i : Int) < (cl : Int) := by omega
  have i2 : ¬ (i : Int) < 0 := by omega
  have i3 : ¬ (i : Int) ≥ (cl : Int) := by omega
  clear d0 HY1 HU hcl
  go_wp2_with fail
  refine bodyPost_ret_by (results_tmp2 rfl _ _ _) rfl ?_
  exact ⟨rfl, HB3.out⟩
end Go.Proofs.YtbijhlgdilkopaaDoor

/- The value of an expression: eval.value. Printed by gen_egvv.py. -/
set_option linter.unusedVariables false
set_option linter.unusedSimpArgs false
set_option maxRecDepth 100000
set_option maxHeartbeats 4000000
namespace Go.Proofs.YtbijhlgdilkopaaDoor
open Go.RowKit Bk
theorem val_num {w : World} {B bx : Nat} (hBw : B ≤ w.heap.size) (x : Nd) (hk : x.k = 1) : ValAt w B bx x (x.num, 0) := by
  intro w' hb
  obtain ⟨k, num, nm, A, n, cap⟩ := x
  dsimp only at *
  subst hk
  have hBw' : B ≤ w'.heap.size := by have := hb.size; omega
  have HB := Lib.hid hb
  clear hb
  go_enter Tryd.func60, Tryd.ntmps60
  go_upto_region 1 with fail
  refine wp_nameE ?_
  intro w1 hw1
  have hb1 : Below w'.heap.size w' w1 := by rw [hw1]; exact (by go_grown)
  have K1 : Blk w1 w'.heap.size 24 #[.int .u8 1, .int .i64 num, .string nm, .slice A n cap] := by rw [hw1]; exact (by repeat' (first | assumption | exact Blk.new' (by simp) _ _ | apply Blk.alloc | apply Blk.drew))
  have HK1 := Lib.hid K1; have HB1 := Lib.hid hb1
  have HW1 := Lib.hid (HB.out.trans (hb1.mono hBw'))
  clear hw1 hb1
  obtain ⟨z_1, T_1, F_1⟩ := K1.open_
  clear K1
  go_wp2_with fail
  refine bodyPost_ret_by (results_tmp2 rfl _ _ _) rfl ?_
  exact ⟨rfl, HB1.out⟩
theorem val_var {w : World} {B bx : Nat} (hBw : B ≤ w.heap.size) (x : Nd) (hk : x.k = 2 ∨ x.k = 3 ∨ x.k = 4 ∨ x.k = 5) {r : Int × Int} (hv : ∀ W, Below B w W → Calls Tryd.prog 70 #[.agg #[.int .u8 x.k, .int .i64 x.num, .string x.nm, .slice x.A x.n x.cap], (.func (.func 39) #[] #[.pointer (some ⟨bx, 0, none⟩)])] W fun e w'' => e = .returned (.tuple #[.int .i64 r.1, .int .i64 r.2]) ∧ Below W.heap.size W w'') : ValAt w B bx x r := by
  intro w' hb
  have HV := Lib.hid hv
  obtain ⟨k, num, nm, A, n, cap⟩ := x
  dsimp only at *
  clear hv
  rcases hk with rfl | rfl | rfl | rfl
  · have hBw' : B ≤ w'.heap.size := by have := hb.size; omega
    have HB := Lib.hid hb
    clear hb
    go_enter Tryd.func60, Tryd.ntmps60
    go_upto_region 1 with fail
    refine wp_nameE ?_
    intro w1 hw1
    have hb1 : Below w'.heap.size w' w1 := by rw [hw1]; exact (by go_grown)
    have K1 : Blk w1 w'.heap.size 24 #[.int .u8 2, .int .i64 num, .string nm, .slice A n cap] := by rw [hw1]; exact (by repeat' (first | assumption | exact Blk.new' (by simp) _ _ | apply Blk.alloc | apply Blk.drew))
    have HK1 := Lib.hid K1; have HB1 := Lib.hid hb1
    have HW1 := Lib.hid (HB.out.trans (hb1.mono hBw'))
    clear hw1 hb1
    obtain ⟨z_1, T_1, F_1⟩ := K1.open_
    clear K1
    go_wp2_with fail
    refine (HV.out w1 HW1.out).mono ?_
    rintro en w2 ⟨rfl, hb2⟩
    have HB2 := Lib.hid (HB1.out.next hb2)
    clear T_1 z_1 F_1 hb2
    go_wp2_with fail
    refine bodyPost_ret_by (results_tmp2 rfl _ _ _) rfl ?_
    exact ⟨rfl, HB2.out⟩
  · have hBw' : B ≤ w'.heap.size := by have := hb.size; omega
    have HB := Lib.hid hb
    clear hb
    go_enter Tryd.func60, Tryd.ntmps60
    go_upto_region 1 with fail
    refine wp_nameE ?_
    intro w1 hw1
    have hb1 : Below w'.heap.size w' w1 := by rw [hw1]; exact (by go_grown)
    have K1 : Blk w1 w'.heap.size 24 #[.int .u8 3, .int .i64 num, .string nm, .slice A n cap] := by rw [hw1]; exact (by repeat' (first | assumption | exact Blk.new' (by simp) _ _ | apply Blk.alloc | apply Blk.drew))
    have HK1 := Lib.hid K1; have HB1 := Lib.hid hb1
    have HW1 := Lib.hid (HB.out.trans (hb1.mono hBw'))
    clear hw1 hb1
    obtain ⟨z_1, T_1, F_1⟩ := K1.open_
    clear K1
    go_wp2_with fail
    refine (HV.out w1 HW1.out).mono ?_
    rintro en w2 ⟨rfl, hb2⟩
    have HB2 := Lib.hid (HB1.out.next hb2)
    clear T_1 z_1 F_1 hb2
    go_wp2_with fail
    refine bodyPost_ret_by (results_tmp2 rfl _ _ _) rfl ?_
    exact ⟨rfl, HB2.out⟩
  · have hBw' : B ≤ w'.heap.size := by have := hb.size; omega
    have HB := Lib.hid hb
    clear hb
    go_enter Tryd.func60, Tryd.ntmps60
    go_upto_region 1 with fail
    refine wp_nameE ?_
    intro w1 hw1
    have hb1 : Below w'.heap.size w' w1 := by rw [hw1]; exact (by go_grown)
    have K1 : Blk w1 w'.heap.size 24 #[.int .u8 4, .int .i64 num, .string nm, .slice A n cap] := by rw [hw1]; exact (by repeat' (first | assumption | exact Blk.new' (by simp) _ _ | apply Blk.alloc | apply Blk.drew))
    have HK1 := Lib.hid K1; have HB1 := Lib.hid hb1
    have HW1 := Lib.hid (HB.out.trans (hb1.mono hBw'))
    clear hw1 hb1
    obtain ⟨z_1, T_1, F_1⟩ := K1.open_
    clear K1
    go_wp2_with fail
    refine (HV.out w1 HW1.out).mono ?_
    rintro en w2 ⟨rfl, hb2⟩
    have HB2 := Lib.hid (HB1.out.next hb2)
    clear T_1 z_1 F_1 hb2
    go_wp2_with fail
    refine bodyPost_ret_by (results_tmp2 rfl _ _ _) rfl ?_
    exact ⟨rfl, HB2.out⟩
  · have hBw' : B ≤ w'.heap.size := by have := hb.size; omega
    have HB := Lib.hid hb
    clear hb
    go_enter Tryd.func60, Tryd.ntmps60
    go_upto_region 1 with fail
    refine wp_nameE ?_
    intro w1 hw1
    have hb1 : Below w'.heap.size w' w1 := by rw [hw1]; exact (by go_grown)
    have K1 : Blk w1 w'.heap.size 24 #[.int .u8 5, .int .i64 num, .string nm, .slice A n cap] := by rw [hw1]; exact (by repeat' (first | assumption | exact Blk.new' (by simp) _ _ | apply Blk.alloc | apply Blk.drew))
    have HK1 := Lib.hid K1; have HB1 := Lib.hid hb1
    have HW1 := Lib.hid (HB.out.trans (hb1.mono hBw'))
    clear hw1 hb1
    obtain ⟨z_1, T_1, F_1⟩ := K1.open_
    clear K1
    go_wp2_with fail
    refine (HV.out w1 HW1.out).mono ?_
    rintro en w2 ⟨rfl, hb2⟩
    have HB2 := Lib.hid (HB1.out.next hb2)
    clear T_1 z_1 F_1 hb2
    go_wp2_with fail
    refine bodyPost_ret_by (results_tmp2 rfl _ _ _) rfl ?_
    exact ⟨rfl, HB2.out⟩
theorem val_unE {w : World} {B bx : Nat} (hBw : B ≤ w.heap.size) (x : Nd) (hk : x.k = 6 ∨ x.k = 7) {y : Nd} (hky : Kid w B x 0 y) (hn : x.n = 1) {r : Int × Int} (ih : ValAt w B bx y r) (he : r.2 ≠ 0) : ValAt w B bx x (0, r.2) := by
  intro w' hb
  obtain ⟨gk, ok, hAk, hgk, c0, c1, c2, c3⟩ := hky.cells hb
  have HIH := Lib.hid ih
  clear ih hky
  obtain ⟨k, num, nm, A, n, cap⟩ := x
  dsimp only at *
  subst hAk; subst hn
  have C0 := Lib.hid c0; have C1 := Lib.hid c1; have C2 := Lib.hid c2; have C3 := Lib.hid c3
  clear c0 c1 c2 c3
  obtain ⟨rv, re⟩ := r
  dsimp only at *
  rcases hk with rfl | rfl
  · have hBw' : B ≤ w'.heap.size := by have := hb.size; omega
    have HB := Lib.hid hb
    clear hb
    go_enter Tryd.func60, Tryd.ntmps60
    go_upto_region 1 with fail
    refine wp_nameE ?_
    intro w1 hw1
    have hb1 : Below w'.heap.size w' w1 := by rw [hw1]; exact (by go_grown)
    have K1 : Blk w1 w'.heap.size 24 #[.int .u8 6, .int .i64 num, .string nm, .slice (some ⟨gk, ok, none⟩) 1 cap] := by rw [hw1]; exact (by repeat' (first | assumption | exact Blk.new' (by simp) _ _ | apply Blk.alloc | apply Blk.drew))
    have HK1 := Lib.hid K1; have HB1 := Lib.hid hb1
    have HW1 := Lib.hid (HB.out.trans (hb1.mono hBw'))
    clear hw1 hb1
    obtain ⟨z_1, T_1, F_1⟩ := K1.open_
    clear K1
    have c0 := (HB1.out.cell (p := ⟨gk, ok + 0 * 4, none⟩) (by show gk < _; omega)).trans C0.out
    have c1 := (HB1.out.cell (p := ⟨gk, ok + 0 * 4 + 1, none⟩) (by show gk < _; omega)).trans C1.out
    have c2 := (HB1.out.cell (p := ⟨gk, ok + 0 * 4 + 2, none⟩) (by show gk < _; omega)).trans C2.out
    have c3 := (HB1.out.cell (p := ⟨gk, ok + 0 * 4 + 3, none⟩) (by show gk < _; omega)).trans C3.out
    rw [Nat.zero_mul, Nat.add_zero] at c0 c1 c2 c3
    go_wp2_with fail
    refine (HIH.out w1 HW1.out).mono ?_
    rintro en w2 ⟨rfl, hb2⟩
    have HB2 := Lib.hid (HB1.out.next hb2); have HK2 := Lib.hid (HK1.out.next hb2); have HW2 := Lib.hid (HB.out.trans ((HB1.out.next hb2).mono hBw'))
    clear T_1 z_1 F_1 hb2
    obtain ⟨z_1, T_1, F_1⟩ := HK2.out.open_
    clear c0 c1 c2 c3
    go_wp2_with fail
    refine bodyPost_ret_by (results_tmp2 rfl _ _ _) rfl ?_
    exact ⟨rfl, HB2.out⟩
  · have hBw' : B ≤ w'.heap.size := by have := hb.size; omega
    have HB := Lib.hid hb
    clear hb
    go_enter Tryd.func60, Tryd.ntmps60
    go_upto_region 1 with fail
    refine wp_nameE ?_
    intro w1 hw1
    have hb1 : Below w'.heap.size w' w1 := by rw [hw1]; exact (by go_grown)
    have K1 : Blk w1 w'.heap.size 24 #[.int .u8 7, .int .i64 num, .string nm, .slice (some ⟨gk, ok, none⟩) 1 cap] := by rw [hw1]; exact (by repeat' (first | assumption | exact Blk.new' (by simp) _ _ | apply Blk.alloc | apply Blk.drew))
    have HK1 := Lib.hid K1; have HB1 := Lib.hid hb1
    have HW1 := Lib.hid (HB.out.trans (hb1.mono hBw'))
    clear hw1 hb1
    obtain ⟨z_1, T_1, F_1⟩ := K1.open_
    clear K1
    have c0 := (HB1.out.cell (p := ⟨gk, ok + 0 * 4, none⟩) (by show gk < _; omega)).trans C0.out
    have c1 := (HB1.out.cell (p := ⟨gk, ok + 0 * 4 + 1, none⟩) (by show gk < _; omega)).trans C1.out
    have c2 := (HB1.out.cell (p := ⟨gk, ok + 0 * 4 + 2, none⟩) (by show gk < _; omega)).trans C2.out
    have c3 := (HB1.out.cell (p := ⟨gk, ok + 0 * 4 + 3, none⟩) (by show gk < _; omega)).trans C3.out
    rw [Nat.zero_mul, Nat.add_zero] at c0 c1 c2 c3
    go_wp2_with fail
    refine (HIH.out w1 HW1.out).mono ?_
    rintro en w2 ⟨rfl, hb2⟩
    have HB2 := Lib.hid (HB1.out.next hb2); have HK2 := Lib.hid (HK1.out.next hb2); have HW2 := Lib.hid (HB.out.trans ((HB1.out.next hb2).mono hBw'))
    clear T_1 z_1 F_1 hb2
    obtain ⟨z_1, T_1, F_1⟩ := HK2.out.open_
    clear c0 c1 c2 c3
    go_wp2_with fail
    refine bodyPost_ret_by (results_tmp2 rfl _ _ _) rfl ?_
    exact ⟨rfl, HB2.out⟩
theorem val_un {w : World} {B bx : Nat} (hBw : B ≤ w.heap.size) (x : Nd) (hk : x.k = 6 ∨ x.k = 7) {y : Nd} (hky : Kid w B x 0 y) (hn : x.n = 1) {r : Int × Int} (ih : ValAt w B bx y r) (he : r.2 = 0) : ValAt w B bx x (if x.k = 6 then Go.RowKit.wrap64 (-r.1) else if r.1 = 0 then 1 else 0, 0) := by
  intro w' hb
  obtain ⟨gk, ok, hAk, hgk, c0, c1, c2, c3⟩ := hky.cells hb
  have HIH := Lib.hid ih
  clear ih hky
  obtain ⟨k, num, nm, A, n, cap⟩ := x
  dsimp only at *
  subst hAk; subst hn
  have C0 := Lib.hid c0; have C1 := Lib.hid c1; have C2 := Lib.hid c2; have C3 := Lib.hid c3
  clear c0 c1 c2 c3
  obtain ⟨rv, re⟩ := r
  dsimp only at *
  rcases hk with rfl | rfl
  · have hBw' : B ≤ w'.heap.size := by have := hb.size; omega
    have HB := Lib.hid hb
    clear hb
    go_enter Tryd.func60, Tryd.ntmps60
    go_upto_region 1 with fail
    refine wp_nameE ?_
    intro w1 hw1
    have hb1 : Below w'.heap.size w' w1 := by rw [hw1]; exact (by go_grown)
    have K1 : Blk w1 w'.heap.size 24 #[.int .u8 6, .int .i64 num, .string nm, .slice (some ⟨gk, ok, none⟩) 1 cap] := by rw [hw1]; exact (by repeat' (first | assumption | exact Blk.new' (by simp) _ _ | apply Blk.alloc | apply Blk.drew))
    have HK1 := Lib.hid K1; have HB1 := Lib.hid hb1
    have HW1 := Lib.hid (HB.out.trans (hb1.mono hBw'))
    clear hw1 hb1
    obtain ⟨z_1, T_1, F_1⟩ := K1.open_
    clear K1
    have c0 := (HB1.out.cell (p := ⟨gk, ok + 0 * 4, none⟩) (by show gk < _; omega)).trans C0.out
    have c1 := (HB1.out.cell (p := ⟨gk, ok + 0 * 4 + 1, none⟩) (by show gk < _; omega)).trans C1.out
    have c2 := (HB1.out.cell (p := ⟨gk, ok + 0 * 4 + 2, none⟩) (by show gk < _; omega)).trans C2.out
    have c3 := (HB1.out.cell (p := ⟨gk, ok + 0 * 4 + 3, none⟩) (by show gk < _; omega)).trans C3.out
    rw [Nat.zero_mul, Nat.add_zero] at c0 c1 c2 c3
    go_wp2_with fail
    refine (HIH.out w1 HW1.out).mono ?_
    rintro en w2 ⟨rfl, hb2⟩
    have HB2 := Lib.hid (HB1.out.next hb2); have HK2 := Lib.hid (HK1.out.next hb2); have HW2 := Lib.hid (HB.out.trans ((HB1.out.next hb2).mono hBw'))
    clear T_1 z_1 F_1 hb2
    obtain ⟨z_1, T_1, F_1⟩ := HK2.out.open_
    clear c0 c1 c2 c3
    subst he
    go_wp2_with fail
    refine (c_Unary 6 rv (by omega) w2).mono ?_
    rintro en w3 ⟨rfl, rfl⟩
    go_wp2_with fail
    all_goals (refine bodyPost_ret_by (results_tmp2 rfl _ _ _) rfl ?_; exact ⟨rfl, HB2.out⟩)
  · have hBw' : B ≤ w'.heap.size := by have := hb.size; omega
    have HB := Lib.hid hb
    clear hb
    go_enter Tryd.func60, Tryd.ntmps60
    go_upto_region 1 with fail
    refine wp_nameE ?_
    intro w1 hw1
    have hb1 : Below w'.heap.size w' w1 := by rw [hw1]; exact (by go_grown)
    have K1 : Blk w1 w'.heap.size 24 #[.int .u8 7, .int .i64 num, .string nm, .slice (some ⟨gk, ok, none⟩) 1 cap] := by rw [hw1]; exact (by repeat' (first | assumption | exact Blk.new' (by simp) _ _ | apply Blk.alloc | apply Blk.drew))
    have HK1 := Lib.hid K1; have HB1 := Lib.hid hb1
    have HW1 := Lib.hid (HB.out.trans (hb1.mono hBw'))
    clear hw1 hb1
    obtain ⟨z_1, T_1, F_1⟩ := K1.open_
    clear K1
    have c0 := (HB1.out.cell (p := ⟨gk, ok + 0 * 4, none⟩) (by show gk < _; omega)).trans C0.out
    have c1 := (HB1.out.cell (p := ⟨gk, ok + 0 * 4 + 1, none⟩) (by show gk < _; omega)).trans C1.out
    have c2 := (HB1.out.cell (p := ⟨gk, ok + 0 * 4 + 2, none⟩) (by show gk < _; omega)).trans C2.out
    have c3 := (HB1.out.cell (p := ⟨gk, ok + 0 * 4 + 3, none⟩) (by show gk < _; omega)).trans C3.out
    rw [Nat.zero_mul, Nat.add_zero] at c0 c1 c2 c3
    go_wp2_with fail
    refine (HIH.out w1 HW1.out).mono ?_
    rintro en w2 ⟨rfl, hb2⟩
    have HB2 := Lib.hid (HB1.out.next hb2); have HK2 := Lib.hid (HK1.out.next hb2); have HW2 := Lib.hid (HB.out.trans ((HB1.out.next hb2).mono hBw'))
    clear T_1 z_1 F_1 hb2
    obtain ⟨z_1, T_1, F_1⟩ := HK2.out.open_
    clear c0 c1 c2 c3
    subst he
    go_wp2_with fail
    refine (c_Unary 7 rv (by omega) w2).mono ?_
    rintro en w3 ⟨rfl, rfl⟩
    go_wp2_with fail
    all_goals (refine bodyPost_ret_by (results_tmp2 rfl _ _ _) rfl ?_; exact ⟨rfl, HB2.out⟩)
theorem val_binE {w : World} {B bx : Nat} (hBw : B ≤ w.heap.size) (x : Nd) (hk : 8 ≤ x.k ∧ x.k ≤ 23) {y z : Nd} (hky : Kid w B x 0 y) (hkz : Kid w B x 1 z) (hn : x.n = 2) {r q : Int × Int} (ih : ValAt w B bx y r) (ih2 : ValAt w B bx z q) (he : r.2 ≠ 0) : ValAt w B bx x (0, r.2) := by
  intro w' hb
  obtain ⟨gk, ok, hAk, hgk, c0, c1, c2, c3⟩ := hky.cells hb
  obtain ⟨gk', ok', hAk', hgk', d0, d1, d2, d3⟩ := hkz.cells hb
  have HIH := Lib.hid ih; have HIH2 := Lib.hid ih2
  clear ih hky ih2 hkz
  obtain ⟨k, num, nm, A, n, cap⟩ := x
  dsimp only at *
  subst hAk; subst hn
  injection hAk' with hAk'
  injection hAk' with e1 e2
  subst e1; subst e2
  have C0 := Lib.hid c0; have C1 := Lib.hid c1; have C2 := Lib.hid c2; have C3 := Lib.hid c3
  have D0 := Lib.hid d0; have D1 := Lib.hid d1; have D2 := Lib.hid d2; have D3 := Lib.hid d3
  clear c0 c1 c2 c3 d0 d1 d2 d3
  obtain ⟨rv, re⟩ := r
  obtain ⟨qv, qe⟩ := q
  dsimp only at *
  have k1 : (k == 1) = false := by simp; omega
  have k2 : (k == 2) = false := by simp; omega
  have k3 : (k == 3) = false := by simp; omega
  have k4 : (k == 4) = false := by simp; omega
  have k5 : (k == 5) = false := by simp; omega
  have HKK := Lib.hid hk
  clear hk
  have hBw' : B ≤ w'.heap.size := by have := hb.size; omega
  have HB := Lib.hid hb
  clear hb
  go_enter Tryd.func60, Tryd.ntmps60
  go_upto_region 1 with fail
  refine wp_nameE ?_
  intro w1 hw1
  have hb1 : Below w'.heap.size w' w1 := by rw [hw1]; exact (by go_grown)
  have K1 : Blk w1 w'.heap.size 24 #[.int .u8 k, .int .i64 num, .string nm, .slice (some ⟨gk, ok, none⟩) 2 cap] := by rw [hw1]; exact (by repeat' (first | assumption | exact Blk.new' (by simp) _ _ | apply Blk.alloc | apply Blk.drew))
  have HK1 := Lib.hid K1; have HB1 := Lib.hid hb1
  have HW1 := Lib.hid (HB.out.trans (hb1.mono hBw'))
  clear hw1 hb1
  obtain ⟨z_1, T_1, F_1⟩ := K1.open_
  clear K1
  have c0 := (HB1.out.cell (p := ⟨gk, ok + 0 * 4, none⟩) (by show gk < _; omega)).trans C0.out
  have c1 := (HB1.out.cell (p := ⟨gk, ok + 0 * 4 + 1, none⟩) (by show gk < _; omega)).trans C1.out
  have c2 := (HB1.out.cell (p := ⟨gk, ok + 0 * 4 + 2, none⟩) (by show gk < _; omega)).trans C2.out
  have c3 := (HB1.out.cell (p := ⟨gk, ok + 0 * 4 + 3, none⟩) (by show gk < _; omega)).trans C3.out
  rw [Nat.zero_mul, Nat.add_zero] at c0 c1 c2 c3
  go_wp2_with fail
  refine (HIH.out w1 HW1.out).mono ?_
  rintro en w2 ⟨rfl, hb2⟩
  have HB2 := Lib.hid (HB1.out.next hb2); have HK2 := Lib.hid (HK1.out.next hb2); have HW2 := Lib.hid (HB.out.trans ((HB1.out.next hb2).mono hBw'))
  clear T_1 z_1 F_1 hb2
  obtain ⟨z_1, T_1, F_1⟩ := HK2.out.open_
  clear c0 c1 c2 c3
  go_wp2_with fail
  refine bodyPost_ret_by (results_tmp2 rfl _ _ _) rfl ?_
  exact ⟨rfl, HB2.out⟩
theorem val_binF {w : World} {B bx : Nat} (hBw : B ≤ w.heap.size) (x : Nd) (hk : 8 ≤ x.k ∧ x.k ≤ 23) {y z : Nd} (hky : Kid w B x 0 y) (hkz : Kid w B x 1 z) (hn : x.n = 2) {r q : Int × Int} (ih : ValAt w B bx y r) (ih2 : ValAt w B bx z q) (he : r.2 = 0) (hf : q.2 ≠ 0) : ValAt w B bx x (0, q.2) := by
  intro w' hb
  obtain ⟨gk, ok, hAk, hgk, c0, c1, c2, c3⟩ := hky.cells hb
  obtain ⟨gk', ok', hAk', hgk', d0, d1, d2, d3⟩ := hkz.cells hb
  have HIH := Lib.hid ih; have HIH2 := Lib.hid ih2
  clear ih hky ih2 hkz
  obtain ⟨k, num, nm, A, n, cap⟩ := x
  dsimp only at *
  subst hAk; subst hn
  injection hAk' with hAk'
  injection hAk' with e1 e2
  subst e1; subst e2
  have C0 := Lib.hid c0; have C1 := Lib.hid c1; have C2 := Lib.hid c2; have C3 := Lib.hid c3
  have D0 := Lib.hid d0; have D1 := Lib.hid d1; have D2 := Lib.hid d2; have D3 := Lib.hid d3
  clear c0 c1 c2 c3 d0 d1 d2 d3
  obtain ⟨rv, re⟩ := r
  obtain ⟨qv, qe⟩ := q
  dsimp only at *
  have k1 : (k == 1) = false := by simp; omega
  have k2 : (k == 2) = false := by simp; omega
  have k3 : (k == 3) = false := by simp; omega
  have k4 : (k == 4) = false := by simp; omega
  have k5 : (k == 5) = false := by simp; omega
  have HKK := Lib.hid hk
  clear hk
  have hBw' : B ≤ w'.heap.size := by have := hb.size; omega
  have HB := Lib.hid hb
  clear hb
  go_enter Tryd.func60, Tryd.ntmps60
  go_upto_region 1 with fail
  refine wp_nameE ?_
  intro w1 hw1
  have hb1 : Below w'.heap.size w' w1 := by rw [hw1]; exact (by go_grown)
  have K1 : Blk w1 w'.heap.size 24 #[.int .u8 k, .int .i64 num, .string nm, .slice (some ⟨gk, ok, none⟩) 2 cap] := by rw [hw1]; exact (by repeat' (first | assumption | exact Blk.new' (by simp) _ _ | apply Blk.alloc | apply Blk.drew))
  have HK1 := Lib.hid K1; have HB1 := Lib.hid hb1
  have HW1 := Lib.hid (HB.out.trans (hb1.mono hBw'))
  clear hw1 hb1
  obtain ⟨z_1, T_1, F_1⟩ := K1.open_
  clear K1
  have c0 := (HB1.out.cell (p := ⟨gk, ok + 0 * 4, none⟩) (by show gk < _; omega)).trans C0.out
  have c1 := (HB1.out.cell (p := ⟨gk, ok + 0 * 4 + 1, none⟩) (by show gk < _; omega)).trans C1.out
  have c2 := (HB1.out.cell (p := ⟨gk, ok + 0 * 4 + 2, none⟩) (by show gk < _; omega)).trans C2.out
  have c3 := (HB1.out.cell (p := ⟨gk, ok + 0 * 4 + 3, none⟩) (by show gk < _; omega)).trans C3.out
  rw [Nat.zero_mul, Nat.add_zero] at c0 c1 c2 c3
  go_wp2_with fail
  refine (HIH.out w1 HW1.out).mono ?_
  rintro en w2 ⟨rfl, hb2⟩
  have HB2 := Lib.hid (HB1.out.next hb2); have HK2 := Lib.hid (HK1.out.next hb2); have HW2 := Lib.hid (HB.out.trans ((HB1.out.next hb2).mono hBw'))
  clear T_1 z_1 F_1 hb2
  obtain ⟨z_1, T_1, F_1⟩ := HK2.out.open_
  clear c0 c1 c2 c3
  subst he
  have d0 := (HB2.out.cell (p := ⟨gk, ok + 1 * 4, none⟩) (by show gk < _; omega)).trans D0.out
  have d1 := (HB2.out.cell (p := ⟨gk, ok + 1 * 4 + 1, none⟩) (by show gk < _; omega)).trans D1.out
  have d2 := (HB2.out.cell (p := ⟨gk, ok + 1 * 4 + 2, none⟩) (by show gk < _; omega)).trans D2.out
  have d3 := (HB2.out.cell (p := ⟨gk, ok + 1 * 4 + 3, none⟩) (by show gk < _; omega)).trans D3.out
  rw [Nat.one_mul] at d0 d1 d2 d3
  go_wp2_with fail
  refine (HIH2.out w2 HW2.out).mono ?_
  rintro en w3 ⟨rfl, hb3⟩
  have HB3 := Lib.hid (HB2.out.next hb3); have HK3 := Lib.hid (HK2.out.next hb3); have HW3 := Lib.hid (HB.out.trans ((HB2.out.next hb3).mono hBw'))
  clear T_1 z_1 F_1 hb3
  obtain ⟨z_1, T_1, F_1⟩ := HK3.out.open_
  clear d0 d1 d2 d3
  go_wp2_with fail
  refine bodyPost_ret_by (results_tmp2 rfl _ _ _) rfl ?_
  exact ⟨rfl, HB3.out⟩
theorem val_bin {w : World} {B bx : Nat} (hBw : B ≤ w.heap.size) (x : Nd) (hk : 8 ≤ x.k ∧ x.k ≤ 23) {y z : Nd} (hky : Kid w B x 0 y) (hkz : Kid w B x 1 z) (hn : x.n = 2) {r q : Int × Int} (ih : ValAt w B bx y r) (ih2 : ValAt w B bx z q) (he : r.2 = 0) (hf : q.2 = 0) : ValAt w B bx x (apply x.k r.1 q.1) := by
  intro w' hb
  obtain ⟨gk, ok, hAk, hgk, c0, c1, c2, c3⟩ := hky.cells hb
  obtain ⟨gk', ok', hAk', hgk', d0, d1, d2, d3⟩ := hkz.cells hb
  have HIH := Lib.hid ih; have HIH2 := Lib.hid ih2
  clear ih hky ih2 hkz
  obtain ⟨k, num, nm, A, n, cap⟩ := x
  dsimp only at *
  subst hAk; subst hn
  injection hAk' with hAk'
  injection hAk' with e1 e2
  subst e1; subst e2
  have C0 := Lib.hid c0; have C1 := Lib.hid c1; have C2 := Lib.hid c2; have C3 := Lib.hid c3
  have D0 := Lib.hid d0; have D1 := Lib.hid d1; have D2 := Lib.hid d2; have D3 := Lib.hid d3
  clear c0 c1 c2 c3 d0 d1 d2 d3
  obtain ⟨rv, re⟩ := r
  obtain ⟨qv, qe⟩ := q
  dsimp only at *
  have k1 : (k == 1) = false := by simp; omega
  have k2 : (k == 2) = false := by simp; omega
  have k3 : (k == 3) = false := by simp; omega
  have k4 : (k == 4) = false := by simp; omega
  have k5 : (k == 5) = false := by simp; omega
  have HKK := Lib.hid hk
  clear hk
  have hBw' : B ≤ w'.heap.size := by have := hb.size; omega
  have HB := Lib.hid hb
  clear hb
  go_enter Tryd.func60, Tryd.ntmps60
  go_upto_region 1 with fail
  refine wp_nameE ?_
  intro w1 hw1
  have hb1 : Below w'.heap.size w' w1 := by rw [hw1]; exact (by go_grown)
  have K1 : Blk w1 w'.heap.size 24 #[.int .u8 k, .int .i64 num, .string nm, .slice (some ⟨gk, ok, none⟩) 2 cap] := by rw [hw1]; exact (by repeat' (first | assumption | exact Blk.new' (by simp) _ _ | apply Blk.alloc | apply Blk.drew))
  have HK1 := Lib.hid K1; have HB1 := Lib.hid hb1
  have HW1 := Lib.hid (HB.out.trans (hb1.mono hBw'))
  clear hw1 hb1
  obtain ⟨z_1, T_1, F_1⟩ := K1.open_
  clear K1
  have c0 := (HB1.out.cell (p := ⟨gk, ok + 0 * 4, none⟩) (by show gk < _; omega)).trans C0.out
  have c1 := (HB1.out.cell (p := ⟨gk, ok + 0 * 4 + 1, none⟩) (by show gk < _; omega)).trans C1.out
  have c2 := (HB1.out.cell (p := ⟨gk, ok + 0 * 4 + 2, none⟩) (by show gk < _; omega)).trans C2.out
  have c3 := (HB1.out.cell (p := ⟨gk, ok + 0 * 4 + 3, none⟩) (by show gk < _; omega)).trans C3.out
  rw [Nat.zero_mul, Nat.add_zero] at c0 c1 c2 c3
  go_wp2_with fail
  refine (HIH.out w1 HW1.out).mono ?_
  rintro en w2 ⟨rfl, hb2⟩
  have HB2 := Lib.hid (HB1.out.next hb2); have HK2 := Lib.hid (HK1.out.next hb2); have HW2 := Lib.hid (HB.out.trans ((HB1.out.next hb2).mono hBw'))
  clear T_1 z_1 F_1 hb2
  obtain ⟨z_1, T_1, F_1⟩ := HK2.out.open_
  clear c0 c1 c2 c3
  subst he
  have d0 := (HB2.out.cell (p := ⟨gk, ok + 1 * 4, none⟩) (by show gk < _; omega)).trans D0.out
  have d1 := (HB2.out.cell (p := ⟨gk, ok + 1 * 4 + 1, none⟩) (by show gk < _; omega)).trans D1.out
  have d2 := (HB2.out.cell (p := ⟨gk, ok + 1 * 4 + 2, none⟩) (by show gk < _; omega)).trans D2.out
  have d3 := (HB2.out.cell (p := ⟨gk, ok + 1 * 4 + 3, none⟩) (by show gk < _; omega)).trans D3.out
  rw [Nat.one_mul] at d0 d1 d2 d3
  go_wp2_with fail
  refine (HIH2.out w2 HW2.out).mono ?_
  rintro en w3 ⟨rfl, hb3⟩
  have HB3 := Lib.hid (HB2.out.next hb3); have HK3 := Lib.hid (HK2.out.next hb3); have HW3 := Lib.hid (HB.out.trans ((HB2.out.next hb3).mono hBw'))
  clear T_1 z_1 F_1 hb3
  obtain ⟨z_1, T_1, F_1⟩ := HK3.out.open_
  clear d0 d1 d2 d3
  subst hf
  go_wp2_with fail
  refine (c_Apply k rv qv w3).mono ?_
  rintro en w4 ⟨rfl, rfl⟩
  go_wp2_with fail
  refine bodyPost_ret_by (results_tmp2 rfl _ _ _) rfl ?_
  exact ⟨rfl, HB3.out⟩
theorem known_mem {vs : List Vr} {s : ByteArray} {k : Int} (h : ∃ v ∈ vs, v.nm = s ∧ v.k = k) : ∃ v ∈ vs, v.nm = s := let ⟨v, h1, h2, _⟩ := h; ⟨v, h1, h2⟩
/-- eval.value computes the value of an expression. -/
theorem e_value {w : World} {B bx : Nat} (hBw : B ≤ w.heap.size) {vs : List Vr} {cs : List (List Int)} (hL : LookAt w B bx vs cs) (hf : FitS vs cs) (hd : Dist vs) : ∀ (e : Ex) (x : Nd), EV w B nameB e x → e.known vs → ValAt w B bx x (evalE (lookV vs cs) e)
  | .num v, x, h, _ => by
    have := val_num (w := w) (B := B) (bx := bx) hBw x h.1
    rw [h.2.1] at this; exact this
  | .var s, x, h, hk => by
    refine val_var hBw x (.inl h.1) fun W hW => ?_
    obtain ⟨v, hv, h1, h2⟩ := hk
    obtain ⟨i, hi⟩ := List.getElem?_of_mem hv
    obtain ⟨c, hc⟩ : ∃ c, cs[i]? = some c := ⟨_, List.getElem?_eq_getElem (by have := (List.getElem?_eq_some_iff.1 hi).1; have := hf.len; omega)⟩
    have hl := look_at hd (s := s) hi hc (by rw [h1]; simp)
    have hf1 := hf.fix i v c hi hc (by omega)
    unfold Vr.fixed at hf1; rw [if_pos h2] at hf1
    obtain ⟨y, hy⟩ : ∃ y, c = [y] := by
      match c, hf1 with
      | [y], _ => exact ⟨y, rfl⟩
    have := e_variable2 hBw hL x h.1 ⟨v, hv, by rw [h.2.2.1]; exact h1⟩ (c := c) (by rw [h.2.2.1]; exact hl) (y := y) hy W hW
    rw [show evalE (lookV vs cs) (.var s) = (y, 0) by simp only [evalE]; rw [hl, hy]; rfl]
    exact this
  | .top s, x, h, hk => by
    refine val_var hBw x (.inr (.inr (.inl h.1))) fun W hW => ?_
    have hm : ∃ v ∈ vs, v.nm = x.nm := by rw [h.2.2.1]; exact known_mem hk
    have hle : (lookV vs cs s).length ≤ 1000000 := by
      rcases look_mem vs cs s with e | e
      · rw [e]; simp
      · have := hf.len1 _ e; omega
    by_cases h0 : (lookV vs cs s).length = 0
    · rw [show evalE (lookV vs cs) (.top s) = (0, 13) by simp only [evalE]; rw [if_pos h0]]
      exact e_variable40 hBw hL x h.1 hm (c := lookV vs cs s) (by rw [h.2.2.1]) h0 W hW
    · rw [show evalE (lookV vs cs) (.top s) = ((lookV vs cs s).getLastD 0, 0) by simp only [evalE]; rw [if_neg h0]]
      exact e_variable41 hBw hL x h.1 hm (c := lookV vs cs s) (by rw [h.2.2.1]) (m := (lookV vs cs s).length - 1) (by omega) (by omega) W hW
  | .size s, x, h, hk => by
    refine val_var hBw x (.inr (.inr (.inr h.1))) fun W hW => ?_
    exact e_variable5 hBw hL x h.1 (by rw [h.2.2.1]; exact known_mem hk) (c := lookV vs cs s) (by rw [h.2.2.1]) W hW
  | .item s a, x, h, hk => by
    refine val_var hBw x (.inr (.inl h.1)) fun W hW => ?_
    obtain ⟨h1, h2, h3, h4, h5, y, h6, h7⟩ := h
    have ih := e_value hBw hL hf hd a y h7 hk.2
    have hm : ∃ v ∈ vs, v.nm = x.nm := by rw [h3]; exact known_mem hk.1
    by_cases he : (evalE (lookV vs cs) a).2 = 0
    · by_cases ho : (evalE (lookV vs cs) a).1 < 0 ∨ ((lookV vs cs s).length : Int) ≤ (evalE (lookV vs cs) a).1
      · rw [show evalE (lookV vs cs) (.item s a) = (0, 12) by simp only [evalE]; rw [if_neg (by simp [he]), if_pos ho]]
        exact e_variable3o hBw hL x h1 hm (c := lookV vs cs s) (by rw [h3]) h6 h5 ih he ho W hW
      · rw [show evalE (lookV vs cs) (.item s a) = ((lookV vs cs s).getD (evalE (lookV vs cs) a).1.toNat 0, 0) by simp only [evalE]; rw [if_neg (by simp [he]), if_neg ho]]
        exact e_variable3 hBw hL x h1 hm (c := lookV vs cs s) (by rw [h3]) h6 h5 ih he (i := (evalE (lookV vs cs) a).1.toNat) (by omega) (by omega) W hW
    · rw [show evalE (lookV vs cs) (.item s a) = (0, (evalE (lookV vs cs) a).2) by simp only [evalE]; rw [if_pos he]]
      exact e_variable3e hBw hL x h1 hm (c := lookV vs cs s) (by rw [h3]) h6 h5 ih he W hW
  | .un op a, x, h, hk => by
    obtain ⟨h1, h2, h3, h4, h5, y, h6, h7⟩ := h
    have ih := e_value hBw hL hf hd a y h7 hk
    by_cases he : (evalE (lookV vs cs) a).2 = 0
    · have := val_un hBw x (by rw [h1]; exact h2) h6 h5 ih he
      rw [show evalE (lookV vs cs) (.un op a) = (if x.k = 6 then Go.RowKit.wrap64 (-(evalE (lookV vs cs) a).1) else if (evalE (lookV vs cs) a).1 = 0 then 1 else 0, 0) by
        simp only [evalE]; rw [if_neg (by simp [he]), h1]
        split <;> rfl]
      exact this
    · rw [show evalE (lookV vs cs) (.un op a) = (0, (evalE (lookV vs cs) a).2) by simp only [evalE]; rw [if_pos he]]
      exact val_unE hBw x (by rw [h1]; exact h2) h6 h5 ih he
  | .bin op a b, x, h, hk => by
    obtain ⟨h1, h2, h3, h4, h5, y, z, h6, h7, h8, h9⟩ := h
    have ih := e_value hBw hL hf hd a y h8 hk.1
    have ih2 := e_value hBw hL hf hd b z h9 hk.2
    by_cases he : (evalE (lookV vs cs) a).2 = 0
    · by_cases hq : (evalE (lookV vs cs) b).2 = 0
      · have := val_bin hBw x (by rw [h1]; exact h2) h6 h7 h5 ih ih2 he hq
        rw [h1] at this
        rw [show evalE (lookV vs cs) (.bin op a b) = apply op (evalE (lookV vs cs) a).1 (evalE (lookV vs cs) b).1 by simp only [evalE]; rw [if_neg (by simp [he]), if_neg (by simp [hq])]]
        exact this
      · rw [show evalE (lookV vs cs) (.bin op a b) = (0, (evalE (lookV vs cs) b).2) by simp only [evalE]; rw [if_neg (by simp [he]), if_pos hq]]
        exact val_binF hBw x (by rw [h1]; exact h2) h6 h7 h5 ih ih2 he hq
    · rw [show evalE (lookV vs cs) (.bin op a b) = (0, (evalE (lookV vs cs) a).2) by simp only [evalE]; rw [if_pos he]]
      exact val_binE hBw x (by rw [h1]; exact h2) h6 h7 h5 ih ih2 he
end Go.Proofs.YtbijhlgdilkopaaDoor

/- eval.Expr with the law's lookup; the law's value. -/
set_option linter.unusedVariables false
set_option linter.unusedSimpArgs false
set_option maxRecDepth 100000
set_option maxHeartbeats 4000000
namespace Bk
open Go Go.RowKit
theorem VsAt.up {w : World} {B B' : Nat} {A : Option Addr} {l : List Vr} (h : VsAt w B A l) (hB : B ≤ B') : VsAt w B' A l := fun i v hv => let ⟨g, o, h1, h2, h3⟩ := h i v hv; ⟨g, o, h1, by omega, h3⟩
theorem IntsAt.up {w : World} {B B' : Nat} {A : Option Addr} {l : List Int} (h : IntsAt w B A l) (hB : B ≤ B') : IntsAt w B' A l := fun i hi => let ⟨g, o, h1, h2, h3⟩ := h i hi; ⟨g, o, h1, by omega, h3⟩
theorem CsAt.up {w : World} {B B' : Nat} {A : Option Addr} {l : List (List Int)} (h : CsAt w B A l) (hB : B ≤ B') : CsAt w B' A l := fun i c hc => let ⟨g, o, A', cap, h1, h2, h3, h4, h5, h6⟩ := h i c hc; ⟨g, o, A', cap, h1, by omega, h3, h4, h5, h6.up hB⟩
end Bk
namespace Go.Proofs.YtbijhlgdilkopaaDoor
open Go.RowKit Bk
theorem eql_look (fn : Fn) (first cap : Array Value) (w : World) : (binOp BinOp.eql 111 (.func fn first cap) .nilFunc).run Tryd.prog w = .ok (.bool false) w := by
  have h : ∀ d, (Op.equalIn (d + 1) 111 (.func fn first cap) .nilFunc).run Tryd.prog w = .ok false w := by
    intro d
    simp [Op.equalIn, run_underlying Tryd.underlying111]
  simp [binOp, Op.equal, show Op.maxDepth = 9999 + 1 from rfl, h]
theorem e_Expr {w : World} {B bx d : Nat} (hBw : B ≤ w.heap.size) {vs : List Vr} {cs : List (List Int)} (hL : LookAt w B bx vs cs) (hf : FitS vs cs) (hd : Dist vs) (e : Ex) (x : Nd) (hx : EV w B nameB e x) (hkv : KV w B d x) (hk : e.known vs) (w' : World) (hb : Below B w w') :
    Calls Tryd.prog 38 #[.agg #[.int .u8 x.k, .int .i64 x.num, .string x.nm, .slice x.A x.n x.cap], (.func (.func 39) #[] #[.pointer (some ⟨bx, 0, none⟩)])] w' fun en w'' => en = .returned (.tuple #[.int .i64 (evalE (lookV vs cs) e).1, .int .i64 (evalE (lookV vs cs) e).2]) ∧ Below w'.heap.size w' w'' := by
  have HV := Lib.hid (e_value hBw hL hf hd e x hx hk)
  have HIS : Hid (∀ W, Below B w W → Calls Tryd.prog 22 #[.agg #[.int .u8 x.k, .int .i64 x.num, .string x.nm, .slice x.A x.n x.cap]] W fun en w'' => en = .returned (.bool true) ∧ Below W.heap.size W w'') := Lib.hid fun W hW => e_IsExpr hBw d x hkv W hW true ⟨fun _ => ⟨e, hx⟩, fun _ => rfl⟩
  obtain ⟨r, hr⟩ : ∃ r, evalE (lookV vs cs) e = r := ⟨_, rfl⟩
  rw [hr] at HV ⊢
  have hBw' : B ≤ w'.heap.size := by have := hb.size; omega
  have HB := Lib.hid hb
  have hel := eql_look
  clear hL hf hd hx hkv hk hb hr
  obtain ⟨k, num, nm, A, n, cap⟩ := x
  dsimp only at *
  go_enter Tryd.func38, Tryd.ntmps38
  go_upto_region 1 with fail
  refine wp_nameE ?_
  intro w1 hw1
  have hb1 : Below w'.heap.size w' w1 := by rw [hw1]; exact (by go_grown)
  have K1 : Blk w1 w'.heap.size 24 #[.int .u8 k, .int .i64 num, .string nm, .slice A n cap] := by rw [hw1]; exact (by repeat' (first | assumption | exact Blk.new' (by simp) _ _ | apply Blk.alloc | apply Blk.drew))
  have HK1 := Lib.hid K1; have HB1 := Lib.hid hb1
  have HW1 := Lib.hid (HB.out.trans (hb1.mono hBw'))
  clear hw1 hb1
  obtain ⟨z_1, T_1, F_1⟩ := K1.open_
  clear K1
  go_wp2_with fail
  refine (HIS.out w1 HW1.out).mono ?_
  rintro en w2 ⟨rfl, hb2⟩
  have HB2 := Lib.hid (HB1.out.next hb2); have HK2 := Lib.hid (HK1.out.next hb2); have HW2 := Lib.hid (HB.out.trans ((HB1.out.next hb2).mono hBw'))
  clear T_1 z_1 F_1 hb2
  obtain ⟨z_1, T_1, F_1⟩ := HK2.out.open_
  go_wp2_with fail
  refine (HV.out w2 HW2.out).mono ?_
  rintro en w3 ⟨rfl, hb3⟩
  have HB3 := Lib.hid (HB2.out.next hb3)
  clear T_1 z_1 F_1 hb3
  go_wp2_with fail
  refine bodyPost_ret_by (results_tmp2 rfl _ _ _) rfl ?_
  exact ⟨rfl, HB3.out⟩
theorem e_valueF {w : World} {B d : Nat} (hBw : B ≤ w.heap.size) {x : Nd} {V : Option Addr} {nv cv : Nat} {vs : List Vr} {C : Option Addr} {nc cc : Nat} {cs : List (List Int)} {fp sb : Int} {G : Option Addr} {ng cg : Nat} {regs : List Int} {E : Option Addr} {ne ce : Nat} {scr : List Int} (hc : CaseAt w B d x V nv vs C nc cs G ng regs E ne ce scr) {e : Ex} (hu : Usable w B nameB x e vs cs fp sb ne) (w' : World) (hb : Below B w w') :
    Calls Tryd.prog 18 #[.agg #[.int .u8 x.k, .int .i64 x.num, .string x.nm, .slice x.A x.n x.cap, .slice V nv cv, .slice C nc cc, .int .i64 fp, .int .i64 sb, .slice G ng cg, .slice E ne ce]] w' fun en w'' => en = .returned (.tuple #[.int .i64 (evalE (lookV vs cs) e).1, .int .i64 (evalE (lookV vs cs) e).2]) ∧ Below w'.heap.size w' w'' := by
  obtain ⟨r, hr⟩ : ∃ r, evalE (lookV vs cs) e = r := ⟨_, rfl⟩
  have hBw' : B ≤ w'.heap.size := by have := hb.size; omega
  have HEX : Hid (∀ w1 t, Below w'.heap.size w' w1 → Blk w1 w'.heap.size t #[.int .u8 x.k, .int .i64 x.num, .string x.nm, .slice x.A x.n x.cap, .slice V nv cv, .slice C nc cc, .int .i64 fp, .int .i64 sb, .slice G ng cg, .slice E ne ce] → ∀ bx, bx = w'.heap.size → Calls Tryd.prog 38 #[.agg #[.int .u8 x.k, .int .i64 x.num, .string x.nm, .slice x.A x.n x.cap], (.func (.func 39) #[] #[.pointer (some ⟨bx, 0, none⟩)])] w1 fun en w'' => en = .returned (.tuple #[.int .i64 r.1, .int .i64 r.2]) ∧ Below w1.heap.size w1 w'') := Lib.hid fun w1 t h1 hk bx hbx => by
    subst hbx
    have hW := hb.trans (h1.mono hBw')
    have hB1 : B ≤ w1.heap.size := by have := hW.size; omega
    have hv := (hc.v.next hW).up hB1; have hcs := (hc.c.next hW).up hB1
    have hL : LookAt w1 w1.heap.size w'.heap.size vs cs := fun s hs W hW2 => e_Look1 (Nat.le_refl _) hv hc.vn (by have := hu.v6; have := hc.vn; omega) hcs hc.cn (by have := hu.fits.len; have := hc.vn; have := hc.cn; omega) hk hk.lt s hs W hW2
    have := e_Expr (Nat.le_refl _) hL hu.fits hu.dist e x (EV.up hB1 e x (hu.ev.next hW)) (KV.up hB1 d x (hc.kv.next hW)) hu.kn w1 (Below.refl _ _)
    rw [hr] at this
    exact this
  rw [hr]
  have HB := Lib.hid hb
  clear hc hu hb hr
  have hmf : ∀ (fn : Fn) (first cap : Array Value) (w : World), (Instr.makeFunc fn first cap).run Tryd.prog w = .ok (.func fn first cap) w := fun _ _ _ _ => rfl
  obtain ⟨k, num, nm, A, n, cap⟩ := x
  dsimp only at *
  go_enter Tryd.func18, Tryd.ntmps18
  go_upto_region 1 with fail
  refine wp_nameE ?_
  intro w1 hw1
  have hb1 : Below w'.heap.size w' w1 := by rw [hw1]; exact (by go_grown)
  have K1 : Blk w1 w'.heap.size 29 #[.int .u8 k, .int .i64 num, .string nm, .slice A n cap, .slice V nv cv, .slice C nc cc, .int .i64 fp, .int .i64 sb, .slice G ng cg, .slice E ne ce] := by rw [hw1]; exact (by repeat' (first | assumption | exact Blk.new' (by simp) _ _ | apply Blk.alloc | apply Blk.drew))
  have HK1 := Lib.hid K1; have HB1 := Lib.hid hb1
  clear hw1 hb1
  obtain ⟨z_1, T_1, F_1⟩ := K1.open_
  clear K1
  go_wp2_with fail
  refine (HEX.out w1 _ HB1.out HK1.out _ rfl).mono ?_
  rintro en w2 ⟨rfl, hb2⟩
  have HB2 := Lib.hid (HB1.out.next hb2)
  clear T_1 z_1 F_1 hb2
  go_wp2_with fail
  refine bodyPost_ret_by (results_tmp2 rfl _ _ _) rfl ?_
  exact ⟨rfl, HB2.out⟩
end Go.Proofs.YtbijhlgdilkopaaDoor
