/- The walk of the law ExprgenNames. Printed by gen_names.py. -/
import Derived.Test.YtbijhlgdilkopaaGreatDoorZNmH
import Derived.Test.YtbijhlgdilkopaaGreatDoorEwX
set_option linter.unusedVariables false
set_option linter.unusedSimpArgs false
set_option maxRecDepth 100000
set_option maxHeartbeats 4000000
namespace Bk
open Go Go.RowKit
theorem comp_posN (sl : List St4) (cc : Int) (e : Ex) (p : Int) : 0 < (comp sl cc e p).length := by
  cases e <;> simp [comp] <;> omega
theorem VsAt.upN {w : World} {B B' : Nat} {A : Option Addr} {l : List Vr} (h : VsAt w B A l) (hB : B ≤ B') : VsAt w B' A l := fun i v hv => let ⟨g, o, h1, h2, h3⟩ := h i v hv; ⟨g, o, h1, by omega, h3⟩
theorem EV.down {w w' : World} {B B' : Nat} {nb : ByteArray → Bool} (hb : Below B w w') (hB : B ≤ B') : ∀ (e : Ex) (d : Nat) (x : Nd), KV w B d x → EV w' B' nb e x → EV w B nb e x
  | _, 0, _, hk, _ => hk.elim
  | .num _, d + 1, x, hk, h => h
  | .var _, d + 1, x, hk, h => h
  | .top _, d + 1, x, hk, h => h
  | .size _, d + 1, x, hk, h => h
  | .item s a, d + 1, x, hk, h => by
    obtain ⟨h1, h2, h3, h4, h5, y, h6, h7⟩ := h
    obtain ⟨_, _, _, _, _, hk6⟩ := hk
    obtain ⟨z, kz, vz⟩ := hk6 0 (by omega)
    have e1 := Kid.one h6 ((kz.next hb).up hB)
    subst e1
    exact ⟨h1, h2, h3, h4, h5, y, kz, EV.down hb hB a d y vz h7⟩
  | .un op a, d + 1, x, hk, h => by
    obtain ⟨h1, h2, h3, h4, h5, y, h6, h7⟩ := h
    obtain ⟨_, _, _, _, _, hk6⟩ := hk
    obtain ⟨z, kz, vz⟩ := hk6 0 (by omega)
    have e1 := Kid.one h6 ((kz.next hb).up hB)
    subst e1
    exact ⟨h1, h2, h3, h4, h5, y, kz, EV.down hb hB a d y vz h7⟩
  | .bin op a b, d + 1, x, hk, h => by
    obtain ⟨h1, h2, h3, h4, h5, y, y2, h6, h6', h7, h7'⟩ := h
    obtain ⟨_, _, _, _, _, hk6⟩ := hk
    obtain ⟨z, kz, vz⟩ := hk6 0 (by omega)
    obtain ⟨z2, kz2, vz2⟩ := hk6 1 (by omega)
    have e1 := Kid.one h6 ((kz.next hb).up hB)
    have e2 := Kid.one h6' ((kz2.next hb).up hB)
    subst e1; subst e2
    exact ⟨h1, h2, h3, h4, h5, y, y2, kz, kz2, EV.down hb hB a d y vz h7, EV.down hb hB b d y2 vz2 h7'⟩
/-- The law's program lies in memory. -/
theorem main_at {w : World} {b4 : Nat} {t t' : TypeId} {k num : Int} {nm : ByteArray} {A : Option Addr} {n cap : Nat} (hA : Blk w b4 t #[.int .u8 k, .int .i64 num, .string nm, .slice A n cap, .int .u8 57, .int .i64 0, .string ⟨#[]⟩, .slice none 0 0, .int .u8 57, .int .i64 0, .string ⟨#[]⟩, .slice none 0 0, .int .u8 k, .int .i64 num, .string nm, .slice A n cap]) (hB : Blk w (b4 + 1 + 1) t' #[.int .u8 52, .int .i64 0, .string ⟨#[]⟩, .slice (some ⟨b4, 0, none⟩) 4 4]) : MainAt w w.heap.size (⟨57, 0, ⟨#[]⟩, some ⟨b4 + 1 + 1, 0, none⟩, 1, 1⟩ : Nd) (⟨k, num, nm, A, n, cap⟩ : Nd) := by
  have e0 : (⟨#[]⟩ : ByteArray).toList.isEmpty = true := by decide +kernel
  have kid : ∀ (i : Nat) (y : Nd), (∀ j v, y.cells[j]? = some v → (#[.int .u8 k, .int .i64 num, .string nm, .slice A n cap, .int .u8 57, .int .i64 0, .string ⟨#[]⟩, .slice none 0 0, .int .u8 57, .int .i64 0, .string ⟨#[]⟩, .slice none 0 0, .int .u8 k, .int .i64 num, .string nm, .slice A n cap] : Array Value)[i * 4 + j]? = some v) → Kid w w.heap.size ⟨52, 0, ⟨#[]⟩, some ⟨b4, 0, none⟩, 4, 4⟩ i y := fun i y h => ⟨b4, 0, rfl, hA.lt, fun j v hv => by rw [Nat.zero_add, hA.cell]; exact h j v hv⟩
  refine ⟨⟨rfl, rfl, e0, rfl⟩, ⟨52, 0, ⟨#[]⟩, some ⟨b4, 0, none⟩, 4, 4⟩, ⟨b4 + 1 + 1, 0, rfl, hB.lt, fun j v hv => by
    rw [show 0 + 0 * 4 + j = j by omega, hB.cell]
    match j, hv with
    | 0, hv => exact hv
    | 1, hv => exact hv
    | 2, hv => exact hv
    | 3, hv => exact hv⟩, ⟨rfl, rfl, e0, rfl⟩, kid 0 _ ?_, ⟨⟨57, 0, ⟨#[]⟩, none, 0, 0⟩, kid 1 _ ?_, rfl, rfl, e0, rfl⟩, ⟨⟨57, 0, ⟨#[]⟩, none, 0, 0⟩, kid 2 _ ?_, rfl, rfl, e0, rfl⟩, kid 3 _ ?_⟩
  all_goals
    intro j v hv
    match j, hv with
    | 0, hv => exact hv
    | 1, hv => exact hv
    | 2, hv => exact hv
    | 3, hv => exact hv
end Bk
namespace Go.Proofs.YtbijhlgdilkopaaGreatDoor
open Go.RowKit Bk
theorem e_limM {w : World} {B : Nat} (hBw : B ≤ w.heap.size) {x mn : Nd} (hm : MainAt w B mn x) {e : Ex} (hx : EV w B nameB e x) : LimOk w B mn (Lx (2 * e.sz + 4) (e.dp + 2)) := by
  obtain ⟨ifn, hki, hif⟩ := hm.k0
  obtain ⟨b1, hb1, hz1⟩ := hif.k1
  obtain ⟨b2, hb2, hz2⟩ := hif.k2
  have h1 : 1 ≤ e.dp := by cases e <;> simp [Ex.dp]
  have hE := e_limE hBw e x hx
  have hZ : ∀ b, PlainK 57 0 b → LimOk w B b (Lx 1 1) := fun b hb => by
    have h := e_limX hBw b (by rw [hb.n]; omega) (fun _ => 0) (fun _ => 1) (fun _ _ => by omega) (fun i hi => absurd hi (by rw [hb.n]; omega))
    rw [hb.n] at h; exact h
  have hI := e_limX hBw ifn (by rw [hif.p.n]; omega) (fun i => if i = 0 ∨ i = 3 then e.sz else 1) (fun i => if i = 0 ∨ i = 3 then e.dp else 1) (fun i _ => by split <;> omega) (fun i hi => by
    rw [hif.p.n] at hi
    match i, hi with
    | 0, _ => exact ⟨x, hif.k0, hE⟩
    | 1, _ => exact ⟨b1, hb1, hZ b1 hz1⟩
    | 2, _ => exact ⟨b2, hb2, hZ b2 hz2⟩
    | 3, _ => exact ⟨x, hif.k3, hE⟩)
  rw [hif.p.n, show sumTo (fun i => if i = 0 ∨ i = 3 then e.sz else 1) 4 + 1 = 2 * e.sz + 3 by simp [sumTo]; omega, show maxTo (fun i => if i = 0 ∨ i = 3 then e.dp else 1) 4 + 1 = e.dp + 1 by simp [maxTo]; omega] at hI
  have hM := e_limX hBw mn (by rw [hm.p.n]; omega) (fun _ => 2 * e.sz + 3) (fun _ => e.dp + 1) (fun _ _ => by omega) (fun i hi => by
    rw [hm.p.n] at hi
    obtain rfl : i = 0 := by omega
    exact ⟨ifn, hki, hI⟩)
  rw [hm.p.n, show sumTo (fun _ => 2 * e.sz + 3) 1 + 1 = 2 * e.sz + 4 by simp [sumTo], show maxTo (fun _ => e.dp + 1) 1 + 1 = e.dp + 2 by simp [maxTo]] at hM
  exact hM
theorem e_limT {w : World} {B : Nat} (hBw : B ≤ w.heap.size) (x : Nd) (hn : x.n ≤ 1000) (hk : ∀ i, i < x.n → ∃ y, Kid w B x i y ∧ LimOk w B y (fun _ _ _ _ => True)) : LimOk w B x (fun _ _ _ _ => True) :=
  e_limN hBw x (by omega) (Rk := fun _ _ _ _ _ => True) (I := fun _ _ _ _ => True) hk (fun _ _ _ => trivial) (fun _ _ => trivial) (fun _ _ _ _ _ _ _ _ => trivial) (fun _ _ _ _ _ _ _ _ => trivial) (fun _ _ _ _ => trivial)
theorem e_limMT {w : World} {B d : Nat} (hBw : B ≤ w.heap.size) {x mn : Nd} (hm : MainAt w B mn x) (hx : KV w B d x) : LimOk w B mn (fun _ _ _ _ => True) := by
  obtain ⟨ifn, hki, hif⟩ := hm.k0
  obtain ⟨b1, hb1, hz1⟩ := hif.k1
  obtain ⟨b2, hb2, hz2⟩ := hif.k2
  have hZ : ∀ b, PlainK 57 0 b → LimOk w B b (fun _ _ _ _ => True) := fun b hb => e_limT hBw b (by rw [hb.n]; omega) (fun i hi => absurd hi (by rw [hb.n]; omega))
  have hX := e_limK hBw d x hx
  refine e_limT hBw mn (by rw [hm.p.n]; omega) (fun i hi => ?_)
  rw [hm.p.n] at hi
  obtain rfl : i = 0 := by omega
  refine ⟨ifn, hki, e_limT hBw ifn (by rw [hif.p.n]; omega) (fun i hi => ?_)⟩
  rw [hif.p.n] at hi
  match i, hi with
  | 0, _ => exact ⟨x, hif.k0, hX⟩
  | 1, _ => exact ⟨b1, hb1, hZ b1 hz1⟩
  | 2, _ => exact ⟨b2, hb2, hZ b2 hz2⟩
  | 3, _ => exact ⟨x, hif.k3, hX⟩
/-- Valid, exactly: the declarations, the expression, its depth. -/
theorem e_ValidM {w : World} {B d : Nat} (hBw : B ≤ w.heap.size) (V : Option Addr) (nv cv : Nat) (vs : List Vr) (hv : VsAt w B V vs) (hnv : vs.length = nv) (hnv2 : nv ≤ 32) (rD : Bool) (hr : rD = true ↔ ∀ v ∈ vs, declB nameB v = true) {x m : Nd} (hm : MainAt w B m x) (hx : KV w B d x) (rE : Bool) (hE : rE = true ↔ IsE w B nameB x) (e : Ex) (he : rE = true → EV w B nameB e x ∧ e.sz ≤ 400) (w' : World) (hb : Below B w w') :
    Calls Tryz.prog 7 #[.agg #[.slice V nv cv, .slice none 0 0, .int .u8 m.k, .int .i64 m.num, .string m.nm, .slice m.A m.n m.cap]] w' fun en w'' => en = .returned (.bool (rD && (rE && decide (e.dp ≤ 78)))) ∧ Below w'.heap.size w' w'' := by
  obtain ⟨ifn, hki, hif⟩ := hm.k0
  have hib : ∀ W, Below B w W → Calls Tryz.prog 34 #[.agg #[.int .u8 m.k, .int .i64 m.num, .string m.nm, .slice m.A m.n m.cap]] W fun en w'' => en = .returned (.bool rE) ∧ Below W.heap.size W w'' := fun W hW => by
    have h := e_IsBlockG hBw m hm.p (by omega) (fun _ => rE) (fun i hi => by
      obtain rfl : i = 0 := by omega
      exact ⟨ifn, hki, fun W hW => e_IsStmtIf hBw hif rE (fun W hW => e_IsExpr hBw d x hx W hW rE hE) W hW⟩) W hW
    rw [show allTo (fun _ => rE) 1 = rE by simp [allTo]] at h
    exact h
  cases hrE : rE with
  | false =>
    subst hrE
    refine (e_Valid hBw V nv cv vs hv hnv hnv2 rD hr m (e_limMT hBw hm hx) false hib w' hb).mono ?_
    rintro en w'' ⟨⟨r, rfl, h1, h2⟩, hb2⟩
    refine ⟨?_, hb2⟩
    have : r = false := by
      cases hD : rD with
      | false => exact h1 hD
      | true => obtain ⟨b, lf, _, h3⟩ := h2 hD; rw [h3]; simp
    rw [this]; simp
  | true =>
    subst hrE
    obtain ⟨hev, hsz⟩ := he rfl
    refine (e_Valid hBw V nv cv vs hv hnv hnv2 rD hr m (e_limM hBw hm hev) true hib w' hb).mono ?_
    rintro en w'' ⟨⟨r, rfl, h1, h2⟩, hb2⟩
    refine ⟨?_, hb2⟩
    have : r = (rD && decide (e.dp ≤ 78)) := by
      cases hD : rD with
      | false => rw [h1 hD]; rfl
      | true =>
        obtain ⟨b, lf, hR, h3⟩ := h2 hD
        have h4 := (hR (by omega)).1
        rw [h3]
        by_cases h78 : e.dp ≤ 78
        · rw [h4.2 (by omega)]; simp [h78]
        · have : b = false := by cases b with | false => rfl | true => exact absurd (h4.1 rfl) (by omega)
          rw [this]; simp [h78]
    rw [this]; simp
theorem c_lawNames {d : Nat} {x : Nd} (W : World) (hkv : KV W W.heap.size d x) {V : Option Addr} {nv cv : Nat} {vs : List Vr} (hv : VsAt W W.heap.size V vs) (hvn : vs.length = nv) (hcv : nv ≤ cv) (hT : TableAt W) :
    Calls Tryz.prog 3 #[.agg #[.int .u8 x.k, .int .i64 x.num, .string x.nm, .slice x.A x.n x.cap], .slice V nv cv] W fun e w' => e = .returned (.bool true) ∧ Below W.heap.size W w' := by
  obtain ⟨rE, hrE⟩ : ∃ r : Bool, (r = true ↔ IsE W W.heap.size nameB x) := by
    by_cases h : IsE W W.heap.size nameB x
    · exact ⟨true, by simp [h]⟩
    · exact ⟨false, by simp [h]⟩
  obtain ⟨e, he⟩ : ∃ e, rE = true → EV W W.heap.size nameB e x := by
    by_cases h : rE = true
    · obtain ⟨e, he⟩ := hrE.1 h; exact ⟨e, fun _ => he⟩
    · exact ⟨.num 0, fun h' => absurd h' h⟩
  obtain ⟨rD, hrD⟩ : ∃ r : Bool, (r = true ↔ ∀ v ∈ vs, declB nameB v = true) := by
    by_cases h : ∀ v ∈ vs, declB nameB v = true
    · exact ⟨true, fun _ => h, fun _ => rfl⟩
    · exact ⟨false, (fun h' => by cases h'), fun h' => absurd h' h⟩
  have HRE := Lib.hid hrE; have HE := Lib.hid he; have HRD := Lib.hid hrD; have HKV := Lib.hid hkv; have HV := Lib.hid hv; have HT := Lib.hid hT; have HVN := Lib.hid hvn
  have HBIG : Hid (∀ W1, Below W.heap.size W W1 → Calls Tryz.prog 5 #[.agg #[.int .u8 x.k, .int .i64 x.num, .string x.nm, .slice x.A x.n x.cap]] W1 fun en w'' => ∃ b, en = .returned (.bool b) ∧ (b = false → ∀ e, EV W W.heap.size nameB e x → e.sz ≤ 400) ∧ Below W1.heap.size W1 w'') := Lib.hid fun W1 h => e_Big (Nat.le_refl _) hkv W1 h
  have HSZ : Hid ((rE = true → e.sz ≤ 400) → ∀ W1, Below W.heap.size W W1 → Calls Tryz.prog 6 #[.agg #[.int .u8 x.k, .int .i64 x.num, .string x.nm, .slice x.A x.n x.cap]] W1 fun en w'' => (∃ v : Int, en = .returned (.int .i64 v) ∧ (rE = true → v = e.sz)) ∧ Below W1.heap.size W1 w'') := Lib.hid fun h4 W1 h => by
    cases hq : rE with
    | true => exact (e_Size (Nat.le_refl _) e (by have := h4 hq; omega) x (he hq) W1 h).mono fun en w'' ⟨a, b⟩ => ⟨⟨_, a, fun _ => rfl⟩, b⟩
    | false => exact (e_SizeK (Nat.le_refl _) d x hkv W1 h).mono fun en w'' ⟨⟨v, a⟩, b⟩ => ⟨⟨v, a, fun h => by cases h⟩, b⟩
  obtain ⟨k, num, nm, A, n, cap⟩ := x
  dsimp only at *
  clear hrE he hrD hkv hv hT hvn
  go_enter Tryz.func3, Tryz.ntmps3
  go_upto_region 1 with fail
  refine wp_nameE ?_
  intro w1 hw1
  have hb1 : Below W.heap.size W w1 := by rw [hw1]; exact (by go_grown)
  have K1 : Blk w1 W.heap.size 24 #[.int .u8 k, .int .i64 num, .string nm, .slice A n cap] := by rw [hw1]; exact (by repeat' (first | assumption | exact Blk.new' (by simp) _ _ | apply Blk.alloc | apply Blk.drew))
  have HK1 := Lib.hid K1; have HB1 := Lib.hid hb1
  clear hw1 hb1 K1
  go_wp2_with fail
  refine (e_awake w1 (HT.out.next HB1.out)).mono ?_
  rintro en w2 ⟨rfl, hb2⟩
  have HB2 := Lib.hid (HB1.out.next hb2); have HK2 := Lib.hid (HK1.out.next hb2)
  clear hb2 HK1 HB1
  obtain ⟨z_1, T_1, F_1⟩ := HK2.out.open_
  go_wp2_with fail
  refine (HBIG.out w2 HB2.out).mono ?_
  rintro en w3 ⟨b, rfl, hbg, hb3⟩
  have HB3 := Lib.hid (HB2.out.next hb3); have HK3 := Lib.hid (HK2.out.next hb3); have HBG := Lib.hid hbg
  clear T_1 z_1 F_1 hb3 hbg HK2 HB2 HBIG
  cases b with
  | true =>
    go_wp2_with fail
    go_ret
    exact ⟨rfl, HB3.out⟩
  | false =>
  have H400 : Hid (rE = true → e.sz ≤ 400) := Lib.hid fun h => HBG.out (by first | rfl | trivial) e (HE.out h)
  clear HBG
  obtain ⟨z_1, T_1, F_1⟩ := HK3.out.open_
  go_wp2_with fail
  refine (HSZ.out H400.out w3 HB3.out).mono ?_
  rintro en w4 ⟨⟨sz, rfl, hsz⟩, hb4⟩
  have HB4 := Lib.hid (HB3.out.next hb4); have HK4 := Lib.hid (HK3.out.next hb4); have HSE := Lib.hid hsz
  clear T_1 z_1 F_1 hb4 hsz HK3 HB3 HSZ
  by_cases h200 : 200 < sz
  · have h2 : decide (200 < sz) = true := by simpa using h200
    go_wp2_with fail
    go_ret
    exact ⟨rfl, HB4.out⟩
  have h2 : decide (200 < sz) = false := by simpa using h200
  by_cases h6 : 6 < nv
  · have h3 : decide ((6 : Int) < (nv : Int)) = true := by simp; omega
    go_wp2_with fail
    go_ret
    exact ⟨rfl, HB4.out⟩
  have h3 : decide ((6 : Int) < (nv : Int)) = false := by simp; omega
  have hnv6 : nv ≤ 6 := by omega
  have H200 : Hid (rE = true → e.sz ≤ 200) := Lib.hid fun h => by have := HSE.out h; omega
  clear HSE h6 h200
  obtain ⟨z_1, T_1, F_1⟩ := HK4.out.open_
  go_upto_region 7 with fail
  refine wp_nameE ?_
  intro w5 hw5
  clear h2 h3 T_1 z_1 F_1
  have KA : Blk w5 w4.heap.size 24 #[.int .u8 k, .int .i64 num, .string nm, .slice A n cap, .int .u8 57, .int .i64 0, .string ⟨#[]⟩, .slice none 0 0, .int .u8 57, .int .i64 0, .string ⟨#[]⟩, .slice none 0 0, .int .u8 k, .int .i64 num, .string nm, .slice A n cap] := by rw [hw5]; exact (by repeat' (first | assumption | exact Blk.new' (by simp) _ _ | apply Blk.alloc | apply Blk.drew))
  have KB : Blk w5 (w4.heap.size + 1 + 1) 24 #[.int .u8 52, .int .i64 0, .string ⟨#[]⟩, .slice (some ⟨w4.heap.size, 0, none⟩) 4 4] := by rw [hw5]; exact (by repeat' (first | assumption | exact Blk.new' (by simp) _ _ | apply Blk.alloc | apply Blk.drew))
  have KP : Blk w5 (w4.heap.size + 1 + 1 + 1) 31 #[.slice V nv cv, .slice none 0 0, .int .u8 57, .int .i64 0, .string ⟨#[]⟩, .slice (some ⟨w4.heap.size + 1 + 1, 0, none⟩) 1 1] := by rw [hw5]; exact (by repeat' (first | assumption | exact Blk.new' (by simp) _ _ | apply Blk.alloc | apply Blk.drew))
  have hb5 : Below w4.heap.size w4 w5 := by rw [hw5]; exact (by go_grown)
  obtain ⟨b4, hb4⟩ : ∃ b4, w4.heap.size = b4 := ⟨_, rfl⟩
  have HB5 := Lib.hid (HB4.out.next hb5); have HK5 := Lib.hid (HK4.out.next hb5)
  rw [hb4] at KA KB KP ⊢
  have hm := main_at KA KB
  have HKP := Lib.hid KP
  have hkv5 : KV w5 w5.heap.size d (⟨k, num, nm, A, n, cap⟩ : Nd) := KV.up HB5.out.size d _ (HKV.out.next HB5.out)
  have hv5 := VsAt.upN (HV.out.next HB5.out) HB5.out.size
  have hE5 : rE = true ↔ IsE w5 w5.heap.size nameB (⟨k, num, nm, A, n, cap⟩ : Nd) := ⟨fun h => ⟨e, EV.up HB5.out.size _ _ ((HE.out h).next HB5.out)⟩, fun ⟨e', h⟩ => HRE.out.2 ⟨e', EV.down HB5.out HB5.out.size e' d _ HKV.out h⟩⟩
  have HVAL : Hid (∀ W1, Below w5.heap.size w5 W1 → Calls Tryz.prog 7 #[.agg #[.slice V nv cv, .slice none 0 0, .int .u8 57, .int .i64 0, .string ⟨#[]⟩, .slice (some ⟨b4 + 1 + 1, 0, none⟩) 1 1]] W1 fun en w'' => en = .returned (.bool (rD && (rE && decide (e.dp ≤ 78)))) ∧ Below W1.heap.size W1 w'') := Lib.hid fun W1 h => e_ValidM (Nat.le_refl _) V nv cv vs hv5 HVN.out (by omega) rD HRD.out hm hkv5 rE hE5 e (fun h => ⟨EV.up HB5.out.size _ _ ((HE.out h).next HB5.out), H400.out h⟩) W1 h
  have HM := Lib.hid hm; have HV5 := Lib.hid hv5
  obtain ⟨rV, hrV⟩ : ∃ rV, (rD && (rE && decide (e.dp ≤ 78))) = rV := ⟨_, rfl⟩
  have HRV := Lib.hid hrV
  rw [hrV] at HVAL
  obtain ⟨z_1, T_1, F_1⟩ := KP.open_
  clear hw5 KA KB KP hb5 hb4 hm hkv5 hv5 hE5 hrV HK4 HB4
  go_wp2_with fail
  refine (HVAL.out w5 (Below.refl _ _)).mono ?_
  rintro en w6 ⟨rfl, hb6⟩
  have HB6 := Lib.hid hb6; have HKP6 := Lib.hid (HKP.out.next hb6)
  clear T_1 z_1 F_1 hb6
  cases rV with
  | false =>
    go_wp2_with fail
    go_ret
    exact ⟨rfl, HB5.out.next HB6.out⟩
  | true =>
    have hDE : rD = true ∧ rE = true ∧ e.dp ≤ 78 := by
      have h := HRV.out
      simp only [Bool.and_eq_true, decide_eq_true_eq] at h
      exact h
    obtain ⟨hD, hEt, h78⟩ := hDE
    have hev := HE.out hEt
    have h200 := H200.out hEt
    have HCHK := Lib.hid (e_Check (w := w5) (Nat.le_refl _) V nv cv vs HV5.out HVN.out (by omega) hcv (⟨57, 0, ⟨#[]⟩, some ⟨b4 + 1 + 1, 0, none⟩, 1, 1⟩ : Nd) HVAL.out (e_visitM (Nat.le_refl _) HV5.out HVN.out (by omega) (⟨57, 0, ⟨#[]⟩, some ⟨b4 + 1 + 1, 0, none⟩, 1, 1⟩ : Nd) (EV.up HB5.out.size _ _ (hev.next HB5.out)) HM.out) (by omega) (by omega) w6 HB6.out)
    have hok : ∀ v ∈ vs, v.Ok := fun v h => declB_ok (HRD.out.1 hD v h)
    have HOK := Lib.hid hok; have HEV := Lib.hid hev
    clear hev hok
    obtain ⟨z_1, T_1, F_1⟩ := HKP6.out.open_
    go_wp2_with fail
    refine HCHK.out.mono ?_
    rintro en w8 ⟨⟨Af, nf, cf, rfl, hkn⟩, hb8⟩
    have HB8 := Lib.hid ((HB5.out.next HB6.out).next hb8); have HK8 := Lib.hid ((HK5.out.next HB6.out).next hb8); have HKN := Lib.hid hkn
    clear T_1 z_1 F_1 hb8 hkn HCHK HVAL
    by_cases hf0 : nf = 0
    · have hknown := HKN.out hf0
      subst hf0
      obtain ⟨ct, hct⟩ : ∃ ct, cellsOf vs = ct := ⟨_, rfl⟩
      obtain ⟨st, hst⟩ : ∃ st, stksOf vs = st := ⟨_, rfl⟩
      obtain ⟨sl, hsl0⟩ : ∃ sl, slotsL vs 0 0 = sl := ⟨_, rfl⟩
      obtain ⟨l, hl⟩ : ∃ l, comp sl ct e 0 = l := ⟨_, rfl⟩
      have hsum := sums_le vs HOK.out
      have hct2 : 0 ≤ ct ∧ ct ≤ 96 := by have := HVN.out; omega
      have hst2 : 0 ≤ st ∧ st ≤ 96 := by have := HVN.out; omega
      have hsl := slotsL_length vs 0 0
      have hheld := known_held hknown
      rw [hsl0] at hsl hheld
      have hpos : 0 < l.length := by rw [← hl]; exact comp_posN _ _ _ _
      have HFR : Hid (∀ W1, Below W.heap.size W W1 → Calls Tryz.prog 10 #[.slice V nv cv] W1 fun en w'' => ∃ u, en = .returned (.agg #[u, .int .i64 ct, .int .i64 st]) ∧ w''.ownsRow W1.heap.size 79 4 u nv (slotCells sl) ∧ Below W1.heap.size W1 w'') := Lib.hid fun W1 h1 => by
        have h := e_frame (Nat.le_refl _) V nv cv vs HV.out HVN.out (by omega) HOK.out W1 h1
        rw [hct, hst, hsl0] at h; exact h
      have HCW : Hid (∀ wf, Below W.heap.size W wf → ∀ Au cu, SlotsAt wf wf.heap.size Au sl → Calls Tryz.prog 9 #[.agg #[.int .u8 k, .int .i64 num, .string nm, .slice A n cap], .agg #[.slice Au nv cu, .int .i64 ct, .int .i64 st]] wf fun en w'' => ∃ v, en = .returned (.tuple #[v, .int .i64 0]) ∧ w''.ownsRow wf.heap.size 102 5 v l.length (codeCells l) ∧ Below wf.heap.size wf w'') := Lib.hid fun wf hwf Au cu hs => by
        have h := e_Compute (w := wf) (B := wf.heap.size) (d := d) (Nat.le_refl _) (F := Au) (nf := nv) (cf := cu) (cc := ct) (ss := st) hct2.1 (by omega) sl hs (by rw [hsl]; exact HVN.out) (by omega) e hheld (by omega) (⟨k, num, nm, A, n, cap⟩ : Nd) (EV.up hwf.size _ _ (HEV.out.next hwf)) (KV.up hwf.size _ _ (HKV.out.next hwf)) (by omega) wf (Below.refl _ _)
        rw [hl] at h; exact h
      obtain ⟨nl, hnl⟩ : ∃ nl, l.length = nl := ⟨_, rfl⟩
      rw [hnl] at HCW hpos
      have hp1 : (0 : Int) < (nl : Int) := by omega
      clear hct hst hsl0 hl hsum hsl hheld hnl hknown HKN
      obtain ⟨z_1, T_1, F_1⟩ := HK8.out.open_
      go_upto_region 9 with fail
      clear T_1 z_1 F_1
      refine wp_region_held_drew (S := fun W => Below w8.heap.size w8 W) (by kernel_rfl) ((Below.refl _ _).drew) (fun hH => ?_)
      refine wpAnyH_take (i := 0) (v := ?_) rfl (by kernel_rfl) (by kernel_rfl) (by kernel_rfl) (fun _ _ _ h => h) (Or.inl ⟨by rfl, ?hy⟩) hH ?_
      case hy => (intro w9_ hS9; have t := (HK8.out.next hS9).cell; clear hS9; go_simp; try with_reducible rfl)
      (try simp only [Bk.PU, Act.put])
      refine wpAnyH_take (i := 1) (v := ?_) rfl (by kernel_rfl) (by kernel_rfl) (by kernel_rfl) (fun _ _ _ h => h) (Or.inl ⟨by rfl, ?hy⟩) hH ?_
      case hy => (intro w9_ hS9; clear hS9; go_simp; try with_reducible rfl)
      (try simp only [Bk.PU, Act.put])
      refine wpAnyH_ready (rs := [2]) (by kernel_rfl) (by simp) ?_
      refine AllReadyH.cons rfl (fun K hK => ?_) (AllReadyH.nil)
      go_simp
      refine (HFR.out _ (HB8.out.next hH)).mono ?_
      rintro en wf ⟨u, rfl, hown, hbf⟩
      have hXf := hH.next hbf
      obtain ⟨Au, cu, rfl⟩ := own_form hown
      have HSLO := Lib.hid (SlotsAt.own hown)
      have HXF := Lib.hid hXf
      clear hown hbf
      refine hK.out _ _ hXf (fun hH => ?_)
      clear hH
      have hH := HXF.out
      clear hXf
      clear hK
      (try simp only [Bk.PU, Act.put])
      refine wpAnyH_ready (rs := [3]) (by kernel_rfl) (by simp) ?_
      refine AllReadyH.cons rfl (fun K hK => ?_) (AllReadyH.nil)
      go_simp
      refine (HCW.out wf (HB8.out.next HXF.out) Au cu HSLO.out).mono ?_
      rintro en w9 ⟨v, rfl, hown, hbc⟩
      have hX4 := HXF.out.next hbc
      obtain ⟨Ac, cl, rfl⟩ := own_form hown
      have HX4 := Lib.hid hX4
      clear hown hbc
      refine hK.out _ _ hX4 (fun hH => ?_)
      clear hH
      have hH := HX4.out
      clear hX4
      clear hK
      (try simp only [Bk.PU, Act.put])
      refine wpAnyH_take (i := 4) (v := ?_) rfl (by kernel_rfl) (by kernel_rfl) (by kernel_rfl) (fun _ _ _ h => h) (Or.inl ⟨by rfl, ?hy⟩) hH ?_
      case hy => (intro w9_ hS9; clear hS9; go_simp; try with_reducible rfl)
      (try simp only [Bk.PU, Act.put])
      refine wpAnyH_take (i := 5) (v := ?_) rfl (by kernel_rfl) (by kernel_rfl) (by kernel_rfl) (fun _ _ _ h => h) (Or.inl ⟨by rfl, ?hy⟩) hH ?_
      case hy => (intro w9_ hS9; clear hS9; go_simp; try with_reducible rfl)
      (try simp only [Bk.PU, Act.put])
      refine wpAnyH_take (i := 6) (v := ?_) rfl (by kernel_rfl) (by kernel_rfl) (by kernel_rfl) (fun _ _ _ h => h) (Or.inl ⟨by rfl, ?hy⟩) hH ?_
      case hy => (intro w9_ hS9; clear hS9; go_simp; try with_reducible rfl)
      (try simp only [Bk.PU, Act.put])
      refine wpAnyH_take (i := 7) (v := ?_) rfl (by kernel_rfl) (by kernel_rfl) (by kernel_rfl) (fun _ _ _ h => h) (Or.inl ⟨by rfl, ?hy⟩) hH ?_
      case hy => (intro w9_ hS9; clear hS9; go_simp; try with_reducible rfl)
      (try simp only [Bk.PU, Act.put])
      refine wpAnyH_take (i := 8) (v := ?_) rfl (by kernel_rfl) (by kernel_rfl) (by kernel_rfl) (fun _ _ _ h => h) (Or.inl ⟨by rfl, ?hy⟩) hH ?_
      case hy => (intro w9_ hS9; clear hS9; go_simp; try with_reducible rfl)
      (try simp only [Bk.PU, Act.put])
      refine wpAnyH_done (by kernel_rfl) ?_ _
      generalize w9 = w9 at *
      have HFIN := Lib.hid (HB8.out.next HX4.out)
      clear hH
      go_wp2_with fail
      go_ret
      exact ⟨by simp, HFIN.out⟩
    · have hf1 : ((nf : Int) != 0) = true := by simpa using hf0
      go_wp2_with fail
      go_ret
      exact ⟨rfl, HB8.out⟩
end Go.Proofs.YtbijhlgdilkopaaGreatDoor
