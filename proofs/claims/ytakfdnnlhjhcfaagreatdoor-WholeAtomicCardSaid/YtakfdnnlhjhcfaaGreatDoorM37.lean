/- WhJj WhJs WhJt. -/
import Derived.Test.YtakfdnnlhjhcfaaGreatDoorZWhJi
import Derived.Test.YtakfdnnlhjhcfaaGreatDoorZWhJr
set_option linter.unusedVariables false
set_option linter.unusedSimpArgs false
set_option linter.unusedSimpArgs false
set_option maxRecDepth 100000
set_option maxHeartbeats 8000000
namespace Go.Proofs.YtakfdnnlhjhcfaaGreatDoor
open Go.RowKit Bk
section
variable {w w' : World} {B : Nat}
theorem ResP.form {cs : List (List Int)} {inp out : List Int} {fuel lo : Nat} {q : Except Int (PSt × Nat)} {v : Value} (h : ResP cs inp out fuel q v lo w) : ∃ A1 m1 c1 A2 m2 c2 A3 m3 c3 a b, v = .agg #[.slice A1 m1 c1, .slice A2 m2 c2, .slice A3 m3 c3, .int .i64 a, .int .i64 b] := by
  have key : ∀ {uC uI uO : Value} {D : Nat → Prop} {cs : List (List Int)} {inp out : List Int}, SW w D uC uI uO cs inp out → ∃ A1 m1 c1 A2 m2 c2 A3 m3 c3, uC = .slice A1 m1 c1 ∧ uI = .slice A2 m2 c2 ∧ uO = .slice A3 m3 c3 := fun hsw => by
    obtain ⟨sv, ⟨A1, c1, e1, _⟩, _⟩ := hsw.row
    obtain ⟨A2, c2, e2, _⟩ := hsw.inp
    obtain ⟨A3, c3, e3, _⟩ := hsw.out
    exact ⟨A1, _, c1, A2, _, c2, A3, _, c3, e1, e2, e3⟩
  cases q with
  | error x =>
    obtain ⟨uC, uI, uO, rfl, hsw⟩ := h
    obtain ⟨A1, m1, c1, A2, m2, c2, A3, m3, c3, rfl, rfl, rfl⟩ := key hsw
    exact ⟨_, _, _, _, _, _, _, _, _, _, _, rfl⟩
  | ok p =>
    obtain ⟨uC, uI, uO, rfl, hsw⟩ := h
    obtain ⟨A1, m1, c1, A2, m2, c2, A3, m3, c3, rfl, rfl, rfl⟩ := key hsw
    exact ⟨_, _, _, _, _, _, _, _, _, _, _, rfl⟩
theorem ResP.fr {cs : List (List Int)} {inp out : List Int} {fuel lo lo' : Nat} {q : Except Int (PSt × Nat)} {v : Value} (h : ResP cs inp out fuel q v lo w) {O : Nat → Prop} (hf : Fr O w w') (hO : ∀ k, O k → k < lo ∨ w.heap.size ≤ k) (hlo : lo' ≤ lo) : ResP cs inp out fuel q v lo' w' := by
  have key : ∀ {uC uI uO : Value} {cs : List (List Int)} {inp out : List Int}, SW w (fun k => lo ≤ k ∧ k < w.heap.size) uC uI uO cs inp out → SW w' (fun k => lo' ≤ k ∧ k < w'.heap.size) uC uI uO cs inp out := fun hsw => hsw.map (fun b o hb => hf.cell hb.2 (fun h => by rcases hO b h with h1 | h1 <;> have := hb.1 <;> have := hb.2 <;> omega) o) fun k hk => ⟨Nat.le_trans hlo hk.1, Nat.lt_of_lt_of_le hk.2 hf.size⟩
  cases q with
  | error x =>
    obtain ⟨uC, uI, uO, e, hsw⟩ := h
    exact ⟨uC, uI, uO, e, key hsw⟩
  | ok p =>
    obtain ⟨uC, uI, uO, e, hsw⟩ := h
    exact ⟨uC, uI, uO, e, key hsw⟩
theorem c_Forward {d nv cv nq cq fuel : Nat} {V Q : Option Addr} {m : Nd} {p : Pg} {pcs : List Pc} (hp : ProgAt w B d V nv cv Q nq cq m p pcs) {vC vI vO : Value} {cs : List (List Int)} {inp out : List Int} (hS : SW w (· < B) vC vI vO cs inp out) (hfit : fitsS p.vars cs inp out = true) (hfu : fuel ≤ 2000) (hb : Below B w w') :
    Calls Tryz.prog 9 #[.agg #[.slice V nv cv, .slice Q nq cq, .int .u8 m.k, .int .i64 m.num, .string m.nm, .slice m.A m.n m.cap], .agg #[vC, vI, vO], .int .i64 fuel] w' fun e w'' => ∃ v, e = .returned v ∧ ResP cs inp out fuel (runP p false cs inp out fuel) v w'.heap.size w'' ∧ Below w'.heap.size w' w'' := by
  have HST := Lib.hid (fun W hW => c_start (w' := W) hp hS hfit hfu false hW)
  have hB' : B ≤ w'.heap.size := by have := hb.size; have := hp.hB; omega
  have HB := Lib.hid hb
  obtain ⟨AC, nc, cC, rfl⟩ : ∃ A n c, vC = .slice A n c := by obtain ⟨sv, ⟨A, c, e, _⟩, _⟩ := hS.row; exact ⟨A, _, c, e⟩
  obtain ⟨AI, ni, cI, rfl⟩ : ∃ A n c, vI = .slice A n c := by obtain ⟨A, c, e, _⟩ := hS.inp; exact ⟨A, _, c, e⟩
  obtain ⟨AO, no, cO, rfl⟩ : ∃ A n c, vO = .slice A n c := by obtain ⟨A, c, e, _⟩ := hS.out; exact ⟨A, _, c, e⟩
  obtain ⟨q, hq⟩ : ∃ q, runP p false cs inp out fuel = q := ⟨_, rfl⟩
  rw [hq] at HST ⊢
  clear hp hS hfit hb hq
  obtain ⟨mk, mnum, mnm, mA, mn, mc⟩ := m
  dsimp only at *
  go_enter Tryz.func9, Tryz.ntmps9
  go_upto_region 1 with fail
  refine wp_nameE ?_
  intro w1 hw1
  have hb1 : Below w'.heap.size w' w1 := (by rw [hw1]; exact (by go_grown))
  have K3 : Blk w1 w'.heap.size 28 #[.slice V nv cv, .slice Q nq cq, .int .u8 mk, .int .i64 mnum, .string mnm, .slice mA mn mc] := (by rw [hw1]; exact blkA)
  have K4 : Blk w1 (w'.heap.size + 1) 32 #[.slice AC nc cC, .slice AI ni cI, .slice AO no cO] := (by rw [hw1]; exact ((Blk.new' (by simp) _ _).alloc _))
  have K6 : Blk w1 (w'.heap.size + 1 + 1) 41 #[.slice none 0 0, .slice none 0 0, .slice none 0 0, .int .i64 0, .int .i64 0] := (by rw [hw1]; exact (Blk.new' (by simp) _ _))
  have HB1 := Lib.hid hb1; have HK6 := Lib.hid K6
  have hs1 := K6.lt
  obtain ⟨z_3, T_3, F_3⟩ := K3.open_
  obtain ⟨z_4, T_4, F_4⟩ := K4.open_
  clear hw1 hb1 K3 K4 K6
  go_wp2_with fail
  refine (HST.out w1 (HB.out.trans (HB1.out.mono hB'))).mono ?_
  rintro en w2 ⟨u, v, rfl, hres, hb2⟩
  obtain ⟨A1, m1, c1, A2, m2, c2, A3, m3, c3, a, b, rfl⟩ := hres.form
  have HRES := Lib.hid hres; have HB2 := Lib.hid hb2; have HK62 := Lib.hid (HK6.out.next hb2)
  have hs2 := hb2.size
  clear hres hb2 z_3 T_3 F_3 z_4 T_4 F_4
  go_upto_region 2 with fail
  refine wp_nameE ?_
  intro w3 hw3
  have hb3 : Below w2.heap.size w2 w3 := (by rw [hw3]; exact (by go_grown))
  have K8 : Blk w3 w2.heap.size 41 #[.slice A1 m1 c1, .slice A2 m2 c2, .slice A3 m3 c3, .int .i64 a, .int .i64 b] := (by rw [hw3]; exact blkA)
  have HB3 := Lib.hid hb3; have HK63 := Lib.hid (HK62.out.next hb3)
  obtain ⟨z_8, T_8, F_8⟩ := K8.open_
  obtain ⟨z_6, T_6, F_6⟩ := HK63.out.open_
  have hne : ¬ (w2.heap.size = w'.heap.size + 1 + 1) := by omega
  clear hw3 hb3 K8
  go_wp2_with fail
  generalize hwf : World.setCell _ _ _ = wf at *
  have kf : Blk wf (w'.heap.size + 1 + 1) 41 #[.slice A1 m1 c1, .slice A2 m2 c2, .slice A3 m3 c3, .int .i64 a, .int .i64 b] := (by rw [← hwf]; simpa using ((((HK63.out.set_ 0 (.slice A1 m1 c1)).set_ 1 (.slice A2 m2 c2)).set_ 2 (.slice A3 m3 c3)).set_ 3 (.int .i64 a)).set_ 4 (.int .i64 b))
  have ff : Fr (fun k => k = w'.heap.size + 1 + 1) w3 wf := (by rw [← hwf]; repeat (first | exact Fr.refl _ _ | (refine Fr.set ?_ ?_ _; rotate_left; exact rfl)))
  clear hwf T_8 F_8 T_6 F_6
  refine bodyPost_ret_by (results_cellS rfl _ _ (w'.heap.size + 1 + 1) _ _ _ rfl kf Tryz.underlying41 rfl (by rw [info_result]; rfl)) rfl ?_
  have hf2 : Fr (fun k => k = w'.heap.size + 1 + 1) w2 wf := (Fr.of HB3.out).trans ff
  refine ⟨_, rfl, HRES.out.fr hf2 (fun k hk => .inl (by omega)) (by omega), (HB1.out.trans (HB2.out.mono (by omega))).trans (hf2.below (by omega) fun k hk => by omega)⟩
theorem c_Backward {d nv cv nq cq fuel : Nat} {V Q : Option Addr} {m : Nd} {p : Pg} {pcs : List Pc} (hp : ProgAt w B d V nv cv Q nq cq m p pcs) {vC vI vO : Value} {cs : List (List Int)} {inp out : List Int} (hS : SW w (· < B) vC vI vO cs inp out) (hfit : fitsS p.vars cs inp out = true) (hfu : fuel ≤ 2000) (hb : Below B w w') :
    Calls Tryz.prog 10 #[.agg #[.slice V nv cv, .slice Q nq cq, .int .u8 m.k, .int .i64 m.num, .string m.nm, .slice m.A m.n m.cap], .agg #[vC, vI, vO], .int .i64 fuel] w' fun e w'' => ∃ v, e = .returned v ∧ ResP cs inp out fuel (runP p true cs inp out fuel) v w'.heap.size w'' ∧ Below w'.heap.size w' w'' := by
  have HST := Lib.hid (fun W hW => c_start (w' := W) hp hS hfit hfu true hW)
  have hB' : B ≤ w'.heap.size := by have := hb.size; have := hp.hB; omega
  have HB := Lib.hid hb
  obtain ⟨AC, nc, cC, rfl⟩ : ∃ A n c, vC = .slice A n c := by obtain ⟨sv, ⟨A, c, e, _⟩, _⟩ := hS.row; exact ⟨A, _, c, e⟩
  obtain ⟨AI, ni, cI, rfl⟩ : ∃ A n c, vI = .slice A n c := by obtain ⟨A, c, e, _⟩ := hS.inp; exact ⟨A, _, c, e⟩
  obtain ⟨AO, no, cO, rfl⟩ : ∃ A n c, vO = .slice A n c := by obtain ⟨A, c, e, _⟩ := hS.out; exact ⟨A, _, c, e⟩
  obtain ⟨q, hq⟩ : ∃ q, runP p true cs inp out fuel = q := ⟨_, rfl⟩
  rw [hq] at HST ⊢
  clear hp hS hfit hb hq
  obtain ⟨mk, mnum, mnm, mA, mn, mc⟩ := m
  dsimp only at *
  go_enter Tryz.func10, Tryz.ntmps10
  go_upto_region 1 with fail
  refine wp_nameE ?_
  intro w1 hw1
  have hb1 : Below w'.heap.size w' w1 := (by rw [hw1]; exact (by go_grown))
  have K3 : Blk w1 w'.heap.size 28 #[.slice V nv cv, .slice Q nq cq, .int .u8 mk, .int .i64 mnum, .string mnm, .slice mA mn mc] := (by rw [hw1]; exact blkA)
  have K4 : Blk w1 (w'.heap.size + 1) 32 #[.slice AC nc cC, .slice AI ni cI, .slice AO no cO] := (by rw [hw1]; exact ((Blk.new' (by simp) _ _).alloc _))
  have K6 : Blk w1 (w'.heap.size + 1 + 1) 41 #[.slice none 0 0, .slice none 0 0, .slice none 0 0, .int .i64 0, .int .i64 0] := (by rw [hw1]; exact (Blk.new' (by simp) _ _))
  have HB1 := Lib.hid hb1; have HK6 := Lib.hid K6
  have hs1 := K6.lt
  obtain ⟨z_3, T_3, F_3⟩ := K3.open_
  obtain ⟨z_4, T_4, F_4⟩ := K4.open_
  clear hw1 hb1 K3 K4 K6
  go_wp2_with fail
  refine (HST.out w1 (HB.out.trans (HB1.out.mono hB'))).mono ?_
  rintro en w2 ⟨u, v, rfl, hres, hb2⟩
  obtain ⟨A1, m1, c1, A2, m2, c2, A3, m3, c3, a, b, rfl⟩ := hres.form
  have HRES := Lib.hid hres; have HB2 := Lib.hid hb2; have HK62 := Lib.hid (HK6.out.next hb2)
  have hs2 := hb2.size
  clear hres hb2 z_3 T_3 F_3 z_4 T_4 F_4
  go_upto_region 2 with fail
  refine wp_nameE ?_
  intro w3 hw3
  have hb3 : Below w2.heap.size w2 w3 := (by rw [hw3]; exact (by go_grown))
  have K8 : Blk w3 w2.heap.size 41 #[.slice A1 m1 c1, .slice A2 m2 c2, .slice A3 m3 c3, .int .i64 a, .int .i64 b] := (by rw [hw3]; exact blkA)
  have HB3 := Lib.hid hb3; have HK63 := Lib.hid (HK62.out.next hb3)
  obtain ⟨z_8, T_8, F_8⟩ := K8.open_
  obtain ⟨z_6, T_6, F_6⟩ := HK63.out.open_
  have hne : ¬ (w2.heap.size = w'.heap.size + 1 + 1) := by omega
  clear hw3 hb3 K8
  go_wp2_with fail
  generalize hwf : World.setCell _ _ _ = wf at *
  have kf : Blk wf (w'.heap.size + 1 + 1) 41 #[.slice A1 m1 c1, .slice A2 m2 c2, .slice A3 m3 c3, .int .i64 a, .int .i64 b] := (by rw [← hwf]; simpa using ((((HK63.out.set_ 0 (.slice A1 m1 c1)).set_ 1 (.slice A2 m2 c2)).set_ 2 (.slice A3 m3 c3)).set_ 3 (.int .i64 a)).set_ 4 (.int .i64 b))
  have ff : Fr (fun k => k = w'.heap.size + 1 + 1) w3 wf := (by rw [← hwf]; repeat (first | exact Fr.refl _ _ | (refine Fr.set ?_ ?_ _; rotate_left; exact rfl)))
  clear hwf T_8 F_8 T_6 F_6
  refine bodyPost_ret_by (results_cellS rfl _ _ (w'.heap.size + 1 + 1) _ _ _ rfl kf Tryz.underlying41 rfl (by rw [info_result]; rfl)) rfl ?_
  have hf2 : Fr (fun k => k = w'.heap.size + 1 + 1) w2 wf := (Fr.of HB3.out).trans ff
  refine ⟨_, rfl, HRES.out.fr hf2 (fun k hk => .inl (by omega)) (by omega), (HB1.out.trans (HB2.out.mono (by omega))).trans (hf2.below (by omega) fun k hk => by omega)⟩
end
end Go.Proofs.YtakfdnnlhjhcfaaGreatDoor
namespace Bk
open Go Go.RowKit Go.Proofs.YtakfdnnlhjhcfaaGreatDoor
theorem sumTo_zero {g : Nat → Nat} : ∀ {n : Nat}, sumTo g n = 0 → ∀ i, i < n → g i = 0
  | 0, _, i, hi => absurd hi (Nat.not_lt_zero _)
  | n + 1, h, i, hi => by
    simp only [sumTo] at h
    rcases Nat.lt_succ_iff_lt_or_eq.1 hi with h1 | rfl
    · exact sumTo_zero (by omega) i h1
    · omega
theorem one_zero {e : Int} (h : one e = 0) : e = 0 := by
  unfold one at h; split at h
  · assumption
  · cases h
def Sq.hok (procs : List Pr) : Sq → Prop
  | .cal _ s _ _ => ∃ u, procs.find? (fun p => p.nm.toList == s.toList) = some u
  | .ifs _ a b _ _ | .frm _ a b _ _ => a.cok procs ∧ b.cok procs
  | .loc _ _ b _ _ | .lst _ b _ => b.cok procs
  | _ => True
theorem Sq.cok_of {procs : List Pr} : ∀ (s : Sq), (∀ i, i < s.len → (s.drop i).hok procs) → s.cok procs
  | .nil, _ => trivial
  | .upd _ _ _ r, h => Sq.cok_of r fun i hi => h (i + 1) (Nat.succ_lt_succ hi)
  | .swp _ _ r, h => Sq.cok_of r fun i hi => h (i + 1) (Nat.succ_lt_succ hi)
  | .stk _ _ _ r, h => Sq.cok_of r fun i hi => h (i + 1) (Nat.succ_lt_succ hi)
  | .tap _ _ r, h => Sq.cok_of r fun i hi => h (i + 1) (Nat.succ_lt_succ hi)
  | .cal _ _ _ r, h => ⟨h 0 (Nat.succ_pos _), Sq.cok_of r fun i hi => h (i + 1) (Nat.succ_lt_succ hi)⟩
  | .ifs _ _ _ _ r, h => ⟨(h 0 (Nat.succ_pos _)).1, (h 0 (Nat.succ_pos _)).2, Sq.cok_of r fun i hi => h (i + 1) (Nat.succ_lt_succ hi)⟩
  | .frm _ _ _ _ r, h => ⟨(h 0 (Nat.succ_pos _)).1, (h 0 (Nat.succ_pos _)).2, Sq.cok_of r fun i hi => h (i + 1) (Nat.succ_lt_succ hi)⟩
  | .loc _ _ _ _ r, h => ⟨h 0 (Nat.succ_pos _), Sq.cok_of r fun i hi => h (i + 1) (Nat.succ_lt_succ hi)⟩
  | .lst _ _ r, h => ⟨h 0 (Nat.succ_pos _), Sq.cok_of r fun i hi => h (i + 1) (Nat.succ_lt_succ hi)⟩
theorem find_of {s : ByteArray} : ∀ {procs : List Pr} {pcs : List Pc}, procs.length = pcs.length → (∀ (i : Nat) (c : Pc) (u : Pr), pcs[i]? = some c → procs[i]? = some u → c.nm = u.nm) → (procX s pcs).isSome = true → ∃ u, procs.find? (fun p => p.nm.toList == s.toList) = some u
  | [], [], _, _, h => by simp [procX] at h
  | [], _ :: _, hl, _, _ => by simp at hl
  | _ :: _, [], hl, _, _ => by simp at hl
  | q :: qs, p :: ps, hl, hn, h => by
    have h0 := hn 0 p q rfl rfl
    simp only [List.find?_cons]
    by_cases hc : (q.nm.toList == s.toList) = true
    · rw [hc]; exact ⟨q, rfl⟩
    · rw [Bool.not_eq_true] at hc
      rw [hc]
      simp only [procX, h0, hc] at h
      refine find_of (pcs := ps) (by simpa using hl) (fun i c u h1 h2 => hn (i + 1) c u h1 h2) ?_
      cases hx : procX s ps with
      | none => rw [hx] at h; simp at h
      | some _ => rfl
section
variable {w : World} {B : Nat} {pcs : List Pc} {procs : List Pr} (hl : procs.length = pcs.length) (hn : ∀ (i : Nat) (c : Pc) (u : Pr), pcs[i]? = some c → procs[i]? = some u → c.nm = u.nm)
include hl hn
theorem call_ok {s : ByteArray} {n : Nat} (h : callE pcs s n = 0) : ∃ u, procs.find? (fun p => p.nm.toList == s.toList) = some u := by
  unfold callE at h
  refine find_of hl hn ?_
  cases hx : procX s pcs with
  | none => rw [hx] at h; simp at h
  | some i => rfl
mutual
theorem hok_of : ∀ (d : Nat) (s : Sq) (x : Nd), StAt w B d s x → ∀ (e : Nat) (vs : List Vr), KV w B e x → cntB w B pcs e x vs = 0 → s.hok procs
  | 0, _, _, h, _, _, _, _ => h.elim
  | d + 1, s, x, h, 0, vs, hk, _ => hk.elim
  | d + 1, s, x, h, e + 1, vs, hk, hc => by
    rw [cntB] at hc
    have kid : ¬ (x.k = 50 ∨ x.k = 51) → ∀ (i : Nat) (y : Nd), i < x.n → Kid w B x i y → KV w B e y ∧ ∃ us, cntB w B pcs e y us = 0 := fun h0 i y hi hy => by
      rw [if_neg h0] at hc
      obtain ⟨h1, h2⟩ := kidN_kid hk hi
      have h3 := Kid.one hy h1
      subst h3
      exact ⟨h2, _, sumTo_zero (show sumTo (fun i => cntB w B pcs e (kidN w B x i) (innerX x i vs)) x.n = 0 by omega) i hi⟩
    cases s with
    | nil => exact h.elim
    | upd => trivial
    | swp => trivial
    | stk => trivial
    | tap => trivial
    | cal op nm args r =>
      obtain ⟨h1, h2, h3, _⟩ := h
      have h4 := one_zero (show one (faultX vs pcs x) = 0 by omega)
      unfold faultX at h4
      rw [if_neg (by omega), if_neg (by omega), if_neg (by omega), if_neg (by omega), if_pos (by omega)] at h4
      rw [← h3]
      exact call_ok hl hn h4
    | ifs ex a b ex' r =>
      obtain ⟨h1, h2, y0, y1, y2, y3, k0, k1, k2, k3, _, b1, b2, _⟩ := h
      obtain ⟨q1, us1, c1⟩ := kid (by omega) 1 y1 (by omega) k1
      obtain ⟨q2, us2, c2⟩ := kid (by omega) 2 y2 (by omega) k2
      exact ⟨cok_at d a y1 b1 e us1 q1 c1, cok_at d b y2 b2 e us2 q2 c2⟩
    | frm ex a b ex' r =>
      obtain ⟨h1, h2, y0, y1, y2, y3, k0, k1, k2, k3, _, b1, b2, _⟩ := h
      obtain ⟨q1, us1, c1⟩ := kid (by omega) 1 y1 (by omega) k1
      obtain ⟨q2, us2, c2⟩ := kid (by omega) 2 y2 (by omega) k2
      exact ⟨cok_at d a y1 b1 e us1 q1 c1, cok_at d b y2 b2 e us2 q2 c2⟩
    | loc v ex b ex' r =>
      obtain ⟨h1, h2, h3, y0, y1, y2, k0, k1, k2, _, b1, _⟩ := h
      obtain ⟨q1, us1, c1⟩ := kid (by omega) 1 y1 (by omega) k1
      exact cok_at d b y1 b1 e us1 q1 c1
    | lst v b r =>
      obtain ⟨h1, h2, h3, y0, k0, b1⟩ := h
      obtain ⟨q1, us1, c1⟩ := kid (by omega) 0 y0 (by omega) k0
      exact cok_at d b y0 b1 e us1 q1 c1
theorem cok_at : ∀ (d : Nat) (s : Sq) (x : Nd), SqAt w B d s x → ∀ (e : Nat) (vs : List Vr), KV w B e x → cntB w B pcs e x vs = 0 → s.cok procs
  | d, s, x, h, 0, vs, hk, _ => hk.elim
  | d, s, x, h, e + 1, vs, hk, hc => by
    have hl_ := hl; have hn_ := hn
    clear hl_ hn_
    obtain ⟨h1, h2, h3⟩ := h
    rw [cntB, if_neg (by omega)] at hc
    refine Sq.cok_of s fun i hi => ?_
    obtain ⟨y, hy, hs⟩ := h3 i hi
    obtain ⟨q1, q2⟩ := kidN_kid hk (show i < x.n by omega)
    have q3 := Kid.one hy q1
    subst q3
    exact hok_of d _ _ hs e _ q2 (sumTo_zero (show sumTo (fun i => cntB w B pcs e (kidN w B x i) (innerX x i vs)) x.n = 0 by omega) i (by omega))
end
end
theorem bl_ofD {w : World} {B d : Nat} {x : Nd} (hv : KV w B (d + 1) x) (h : blB w B (d + 1) x = true) : ∃ s, SqAt w B d s x := by
  unfold blB at h
  simp only [Bool.and_eq_true, decide_eq_true_eq] at h
  obtain ⟨hk, _, ha⟩ := h
  exact sq_of (d := d) hk fun i hi => by
    obtain ⟨h1, h2⟩ := kidN_kid hv hi
    obtain ⟨s, h3⟩ := st_of d _ h2 (allTo_all ha i hi)
    exact ⟨_, s, h1, h3⟩
end Bk
namespace Go.Proofs.YtakfdnnlhjhcfaaGreatDoor
section
open Go.RowKit Bk
theorem progAt_of {w : World} {B d : Nat} (hBw : B ≤ w.heap.size) (V : Option Addr) (nv cv : Nat) (vs : List Vr) (hv : VsAt w B V vs) (hnv : vs.length = nv) (hnv2 : nv ≤ 17592186043904) (hcv : nv ≤ cv) (hVn : V = none → cv = 0) (Q : Option Addr) (nq cq : Nat) (ps : List Pc) (hq : PrsAt w B (d + 1) Q ps) (hnq : ps.length = nq) (hnq2 : nq ≤ 17592186043904) (hpn : ∀ p ∈ ps, p.V = none → p.cv = 0) (m : Nd) (hm : KV w B (d + 1) m)
    (hval : validB w B (d + 1) vs ps m = true) (hchk : chkN w B (d + 1) vs ps m = 0) : ∃ p : Pg, ProgAt w B d V nv cv Q nq cq m p ps ∧ p.vars = vs := by
  obtain ⟨v1, v2, v3, v4, v5⟩ := validB_of hval
  have hcnt := hchk
  unfold chkN at hcnt
  rw [if_pos hval] at hcnt
  unfold cntP at hcnt
  have hp : ∀ c : Pc, ∃ s : Sq, c ∈ ps → SqAt w B d s c.body := fun c => by
    by_cases hc : c ∈ ps
    · obtain ⟨i, hi⟩ := List.getElem?_of_mem hc
      obtain ⟨_, _, _, _, _, hk⟩ := hq i c hi
      obtain ⟨s, hs⟩ := bl_ofD hk (bodyB_of (procB_of (v4 c hc)).2.2.2).2
      exact ⟨s, fun _ => hs⟩
    · exact ⟨.nil, fun h => absurd h hc⟩
  obtain ⟨f, hf⟩ : ∃ f : Pc → Sq, ∀ c, c ∈ ps → SqAt w B d (f c) c.body := ⟨fun c => Classical.choose (hp c), fun c => Classical.choose_spec (hp c)⟩
  obtain ⟨s, hs⟩ := bl_ofD hm (bodyB_of v5).2
  have hget : ∀ (i : Nat) (c : Pc) (u : Pr), ps[i]? = some c → (ps.map fun c => (⟨c.nm, c.vs, f c⟩ : Pr))[i]? = some u → u = ⟨c.nm, c.vs, f c⟩ := fun i c u h1 h2 => by
    rw [List.getElem?_map, h1] at h2; simpa using h2.symm
  have hnm : ∀ (i : Nat) (c : Pc) (u : Pr), ps[i]? = some c → (ps.map fun c => (⟨c.nm, c.vs, f c⟩ : Pr))[i]? = some u → c.nm = u.nm := fun i c u h1 h2 => by rw [hget i c u h1 h2]
  refine ⟨⟨vs, ps.map fun c => ⟨c.nm, c.vs, f c⟩, s⟩, ⟨hBw, hv, hnv, hq, hnq, by omega, by simpa using hnq, fun i c u h1 h2 => ?_, hs, hm, cok_at (by simp) hnm d s m hs (d + 1) vs hm (by omega), fun W hW => ?_, fun W hW => ?_⟩, rfl⟩
  · have hc := List.mem_of_getElem? h1
    obtain ⟨_, _, q2, q3, q4, hk⟩ := hq i c h1
    rw [hget i c u h1 h2]
    have h8 := (procB_of (v4 c hc)).2.1
    have hi : i < ps.length := (List.getElem?_eq_some_iff.1 h1).1
    have hz := sumTo_zero (show sumTo (prcC w B (d + 1) ps) ps.length = 0 by omega) i hi
    unfold prcC at hz
    rw [h1] at hz
    simp only at hz
    exact ⟨rfl, rfl, hf c hc, by omega, cok_at (by simp) hnm d (f c) c.body (hf c hc) (d + 1) c.vs hk (by omega)⟩
  · exact (e_ValidP hBw V nv cv vs hv hnv hnv2 Q nq cq ps hq hnq hnq2 m hm W hW).mono fun en w'' h => ⟨by rw [h.1, hval], h.2⟩
  · refine (e_CheckX hBw V nv cv vs hv hnv hnv2 hcv hVn Q nq cq ps hq hnq hnq2 hpn m hm W hW).mono ?_
    rintro en w'' ⟨⟨A, c, h1⟩, h2⟩
    rw [hchk] at h1
    exact ⟨A, c, h1, h2⟩
end
set_option maxHeartbeats 4000000
section
open Go.RowKit Bk
theorem getD_memS {α : Type} {l : List (List α)} {j : Nat} (h : j < l.length) : l.getD j [] ∈ l := by simp [List.getD_eq_getElem?_getD, h]
theorem Sl.some_ {w : World} {D : Nat → Prop} {sz n : Nat} {v : Value} {xs : List Value} (h : Sl w D sz v n xs) (hn : 0 < n) : ∃ b off cap, v = .slice (some ⟨b, off, none⟩) n cap ∧ D b ∧ ∀ j u, xs[j]? = some u → w.cell? ⟨b, off + j, none⟩ = some u := by
  obtain ⟨A, cap, rfl, _, _, h3⟩ := h
  obtain ⟨b, off, rfl, hd, hc⟩ := h3.2 hn
  exact ⟨b, off, cap, rfl, hd, hc⟩
theorem c_EqI {w : World} {D D' : Nat → Prop} {v v' : Value} {l l' : List Int} (h : Sl w D 1 v l.length (intCells l)) (h' : Sl w D' 1 v' l'.length (intCells l')) (hD : ∀ k, D k → k < w.heap.size) (hD' : ∀ k, D' k → k < w.heap.size) (hmax : l.length ≤ 17592186044400) (hmax' : l'.length ≤ 17592186044400) :
    Calls Tryz.prog 23 #[v, v'] w fun e w' => e = .returned (.bool (decide (l = l'))) ∧ Below w.heap.size w w' := by
  have HS := Lib.hid h; have HS' := Lib.hid h'
  obtain ⟨A, cap, rfl, _⟩ := h
  obtain ⟨A', cap', rfl, _⟩ := h'
  by_cases hll : l.length = l'.length
  · have hnn : ((l.length : Int) != (l.length : Int)) = false := by simp
    obtain ⟨n, hn⟩ : ∃ n, n = l.length := ⟨_, rfl⟩
    obtain ⟨r, hr⟩ : ∃ r, r = decide (l = l') := ⟨_, rfl⟩
    rw [← hr]
    rw [← hll]
    rw [← hn] at hnn hmax ⊢
    have HN := Lib.hid hn; have HR := Lib.hid hr; have HLL := Lib.hid hll
    clear hn hr hll hmax'
    go_enter Tryz.func23, Tryz.ntmps23
    go_wp2_with fail
    go_loopw [13] (fun v13 wr => ∃ i : Nat, i ≤ n ∧ v13 = .int .i64 i ∧ (∀ k, k < i → l.getD k 0 = l'.getD k 0) ∧ Below w.heap.size w wr) (fun i _ => n - (intOf i).toNat)
    case atStart => exact ⟨0, Nat.zero_le _, rfl, fun k hk => absurd hk (Nat.not_lt_zero _), by go_grown⟩
    case round =>
      obtain ⟨j, hi, rfl, hz, hB⟩ := hrel
      have HZ := Lib.hid hz; clear hz
      by_cases hlt' : j < n
      · have hlt : j < l.length := HN.out ▸ hlt'
        have hll := HLL.out
        obtain ⟨bx, ox, cpx, ex, hdx, hcx⟩ := Sl.some_ HS.out (by omega)
        obtain ⟨by', oy, cpy, ey, hdy, hcy⟩ := Sl.some_ HS'.out (by omega)
        obtain ⟨rfl, -, -⟩ : A = some ⟨bx, ox, none⟩ ∧ True ∧ True := ⟨by injection ex, trivial, trivial⟩
        obtain ⟨rfl, -, -⟩ : A' = some ⟨by', oy, none⟩ ∧ True ∧ True := ⟨by injection ey, trivial, trivial⟩
        have cx := (hB.cell (p := ⟨bx, ox + j, none⟩) (hD _ hdx)).trans (hcx _ _ (intCells_get l j hlt))
        have cy := (hB.cell (p := ⟨by', oy + j, none⟩) (hD' _ hdy)).trans (hcy _ _ (intCells_get l' j (hll ▸ hlt)))
        clear hcx hcy ex ey hll hlt
        generalize hx : l.getD j 0 = x at *
        generalize hy : l'.getD j 0 = y at *
        have HX := Lib.hid hx; have HY := Lib.hid hy; clear hx hy
        obtain ⟨z, hv⟩ : ∃ z, (x != y) = z := ⟨_, rfl⟩
        have HV := Lib.hid hv
        have hbx : bx < wr.heap.size := by have := hB.size; have := hD _ hdx; omega
        have hby : by' < wr.heap.size := by have := hB.size; have := hD' _ hdy; omega
        cases z with
        | true =>
          go_wp2_with fail
          go_quiet (fail)
          go_wp2_with fail
          go_ret
          refine ⟨ret_bool ?_, Bk.drewN_ hB _⟩
          rw [HR.out]
          symm
          rw [decide_eq_false_iff_not]
          intro e
          have := HV.out
          have hxy : x = y := by rw [← HX.out, ← HY.out, e]
          subst hxy
          simp at this
        | false =>
          have hxy : x = y := by
            have := HV.out
            simpa [Prod.ext_iff] using this
          go_wp2_with fail
          go_quiet (fail)
          go_wp2_with fail
          exact ⟨⟨j + 1, by omega, by go_num, fun k hk => (Nat.lt_succ_iff_lt_or_eq.1 hk).elim (HZ.out k) (fun e => by subst e; rw [HX.out, HY.out, hxy]), Bk.drewN_ hB _⟩, by simp [intOf]; omega⟩
      · obtain rfl : n = j := by omega
        have hcd : l = l' := by
          apply List.ext_getElem HLL.out
          intro k h1 h2
          have := HZ.out k (by rw [HN.out]; exact h1)
          simpa [List.getD_eq_getElem?_getD, h1, h2] using this
        go_wp2_with fail
        go_ret
        exact ⟨ret_bool (by rw [HR.out]; simp [hcd]), by go_grown⟩
  · have hnn : ((l.length : Int) != (l'.length : Int)) = true := by simp; omega
    have hr : decide (l = l') = false := by rw [decide_eq_false_iff_not]; intro e; exact hll (by rw [e])
    rw [hr]
    clear hr HS HS'
    go_enter Tryz.func23, Tryz.ntmps23
    go_wp2_with fail
    go_ret
    exact ⟨rfl, by go_grown⟩
theorem c_EqF {w : World} {D D' : Nat → Prop} {v v' : Value} {sv sv' : List Value} {ss ss' : List (List Int)} (h : Sl w D 1 v ss.length sv) (h' : Sl w D' 1 v' ss'.length sv') (hs : SvRd w D sv ss) (hs' : SvRd w D' sv' ss') (hD : ∀ k, D k → k < w.heap.size) (hD' : ∀ k, D' k → k < w.heap.size)
    (hmax : ss.length ≤ 17592186044400) (hmax' : ss'.length ≤ 17592186044400) (hl : ∀ l ∈ ss, l.length ≤ 17592186044400) (hl' : ∀ l ∈ ss', l.length ≤ 17592186044400) :
    Calls Tryz.prog 22 #[v, v', .func (.func 23) #[] #[]] w fun e w' => e = .returned (.bool (decide (ss = ss'))) ∧ Below w.heap.size w w' := by
  have HS := Lib.hid h; have HS' := Lib.hid h'; have HV := Lib.hid hs; have HV' := Lib.hid hs'; have HL := Lib.hid hl; have HL' := Lib.hid hl'
  clear hs hs' hl hl'
  obtain ⟨A, cap, rfl, _⟩ := h
  obtain ⟨A', cap', rfl, _⟩ := h'
  by_cases hll : ss.length = ss'.length
  · have hnn : ((ss.length : Int) != (ss.length : Int)) = false := by simp
    obtain ⟨n, hn⟩ : ∃ n, n = ss.length := ⟨_, rfl⟩
    obtain ⟨r, hr⟩ : ∃ r, r = decide (ss = ss') := ⟨_, rfl⟩
    rw [← hr]
    rw [← hll]
    rw [← hn] at hnn hmax ⊢
    have HN := Lib.hid hn; have HR := Lib.hid hr; have HLL := Lib.hid hll
    clear hn hr hll hmax'
    go_enter Tryz.func22, Tryz.ntmps22
    go_wp2_with fail
    go_loopw [17] (fun v13 wr => ∃ i : Nat, i ≤ n ∧ v13 = .int .i64 i ∧ (∀ k, k < i → ss.getD k [] = ss'.getD k []) ∧ Below w.heap.size w wr) (fun i _ => n - (intOf i).toNat)
    case atStart => exact ⟨0, Nat.zero_le _, rfl, fun k hk => absurd hk (Nat.not_lt_zero _), by go_grown⟩
    case round =>
      obtain ⟨j, hi, rfl, hz, hB⟩ := hrel
      have HZ := Lib.hid hz; clear hz
      by_cases hlt' : j < n
      · have hlt : j < ss.length := HN.out ▸ hlt'
        have hlt2 : j < ss'.length := HLL.out ▸ hlt
        obtain ⟨bx, ox, cpx, ex, hdx, hcx⟩ := Sl.some_ HS.out (by omega)
        obtain ⟨by', oy, cpy, ey, hdy, hcy⟩ := Sl.some_ HS'.out (by omega)
        obtain ⟨rfl, -, -⟩ : A = some ⟨bx, ox, none⟩ ∧ True ∧ True := ⟨by injection ex, trivial, trivial⟩
        obtain ⟨rfl, -, -⟩ : A' = some ⟨by', oy, none⟩ ∧ True ∧ True := ⟨by injection ey, trivial, trivial⟩
        obtain ⟨ux, hux, slx⟩ := HV.out.2 j hlt
        obtain ⟨uy, huy, sly⟩ := HV'.out.2 j hlt2
        have cx := (hB.cell (p := ⟨bx, ox + j, none⟩) (hD _ hdx)).trans (hcx _ _ hux)
        have cy := (hB.cell (p := ⟨by', oy + j, none⟩) (hD' _ hdy)).trans (hcy _ _ huy)
        have HSX := Lib.hid (slx.keep (fun b o hd => hB.cell (p := ⟨b, o, none⟩) (hD _ hd)) (D' := D) (fun _ h => h))
        have HSY := Lib.hid (sly.keep (fun b o hd => hB.cell (p := ⟨b, o, none⟩) (hD' _ hd)) (D' := D') (fun _ h => h))
        have hlx := HL.out _ (getD_memS hlt)
        have hly := HL'.out _ (getD_memS hlt2)
        clear hcx hcy ex ey hlt hlt2 hux huy
        generalize hx : ss.getD j [] = x at *
        generalize hy : ss'.getD j [] = y at *
        have HX := Lib.hid hx; have HY := Lib.hid hy; clear hx hy
        obtain ⟨Ax, cpx', rfl, _⟩ := slx
        obtain ⟨Ay, cpy', rfl, _⟩ := sly
        obtain ⟨z, hv⟩ : ∃ z, decide (x = y) = z := ⟨_, rfl⟩
        have HZZ := Lib.hid hv
        clear hv
        have hbx : bx < wr.heap.size := by have := hB.size; have := hD _ hdx; omega
        have hby : by' < wr.heap.size := by have := hB.size; have := hD' _ hdy; omega
        go_wp2_with fail
        refine (c_EqI HSX.out HSY.out (fun k hk => Nat.lt_of_lt_of_le (hD k hk) hB.size) (fun k hk => Nat.lt_of_lt_of_le (hD' k hk) hB.size) hlx hly).mono ?_
        rw [HZZ.out]
        rintro e w2 ⟨rfl, hb2⟩
        have hB2 : Below w.heap.size w w2 := hB.next hb2
        clear hb2
        cases z with
        | false =>
          go_wp2_with fail
          go_ret
          refine ⟨ret_bool ?_, hB2⟩
          rw [HR.out]
          symm
          rw [decide_eq_false_iff_not]
          intro e
          have hxy : x = y := by rw [← HX.out, ← HY.out, e]
          exact of_decide_eq_false HZZ.out hxy
        | true =>
          have hxy : x = y := of_decide_eq_true HZZ.out
          go_wp2_with fail
          exact ⟨⟨j + 1, by omega, by go_num, fun k hk => (Nat.lt_succ_iff_lt_or_eq.1 hk).elim (HZ.out k) (fun e => by subst e; rw [HX.out, HY.out, hxy]), hB2⟩, by simp [intOf]; omega⟩
      · obtain rfl : n = j := by omega
        have hcd : ss = ss' := by
          apply List.ext_getElem HLL.out
          intro k h1 h2
          have := HZ.out k (by rw [HN.out]; exact h1)
          simpa [List.getD_eq_getElem?_getD, h1, h2] using this
        go_wp2_with fail
        go_ret
        exact ⟨ret_bool (by rw [HR.out]; simp [hcd]), by go_grown⟩
  · have hnn : ((ss.length : Int) != (ss'.length : Int)) = true := by simp; omega
    have hr : decide (ss = ss') = false := by rw [decide_eq_false_iff_not]; intro e; exact hll (by rw [e])
    rw [hr]
    clear hr HS HS'
    go_enter Tryz.func22, Tryz.ntmps22
    go_wp2_with fail
    go_ret
    exact ⟨rfl, by go_grown⟩
theorem SW.sv {w : World} {D : Nat → Prop} {vC vI vO : Value} {cs : List (List Int)} {inp out : List Int} (h : SW w D vC vI vO cs inp out) : ∃ sv, Sl w D 1 vC cs.length sv ∧ SvRd w D sv cs := by
  obtain ⟨sv, h1, h2⟩ := h.row
  have hl : sv.length = cs.length := by obtain ⟨A, c, _, _, _, h3⟩ := h1; have := h3.1; omega
  refine ⟨sv, h1, hl, fun j hj => ?_⟩
  have e1 := List.getElem?_eq_getElem (l := sv) (i := j) (by omega)
  have e2 := List.getElem?_eq_getElem (l := cs) (i := j) hj
  refine ⟨_, e1, ?_⟩
  have := h2 j _ _ e1 e2
  rw [show cs.getD j [] = cs[j] by simp [List.getD_eq_getElem?_getD, hj]]
  exact this
theorem c_StEqual {w : World} {D D' : Nat → Prop} {vC vI vO vC' vI' vO' : Value} {cs cs' : List (List Int)} {inp out inp' out' : List Int} (h : SW w D vC vI vO cs inp out) (h' : SW w D' vC' vI' vO' cs' inp' out') (hD : ∀ k, D k → k < w.heap.size) (hD' : ∀ k, D' k → k < w.heap.size)
    (hb : cs.length ≤ 100000 ∧ inp.length ≤ 100000 ∧ out.length ≤ 100000 ∧ ∀ l ∈ cs, l.length ≤ 100000) (hb' : cs'.length ≤ 100000 ∧ inp'.length ≤ 100000 ∧ out'.length ≤ 100000 ∧ ∀ l ∈ cs', l.length ≤ 100000) :
    Calls Tryz.prog 12 #[.agg #[vC, vI, vO], .agg #[vC', vI', vO']] w fun e w' => e = .returned (.bool (decide (cs = cs') && (decide (inp = inp') && decide (out = out')))) ∧ Below w.heap.size w w' := by
  obtain ⟨sv, s1, s2⟩ := h.sv
  obtain ⟨sv', s1', s2'⟩ := h'.sv
  have KEEP : ∀ {size n : Nat} {v : Value} {xs : List Value} {D : Nat → Prop}, (∀ k, D k → k < w.heap.size) → Sl w D size v n xs → ∀ W, Below w.heap.size w W → Sl W D size v n xs := fun hD h W hW => h.keep (fun b o hd => hW.cell (p := ⟨b, o, none⟩) (hD _ hd)) (fun _ h => h)
  have HC : Hid (∀ W, Below w.heap.size w W → Calls Tryz.prog 22 #[vC, vC', .func (.func 23) #[] #[]] W fun e w' => e = .returned (.bool (decide (cs = cs'))) ∧ Below W.heap.size W w') := Lib.hid fun W hW => c_EqF (KEEP hD s1 W hW) (KEEP hD' s1' W hW) ⟨s2.1, fun j hj => let ⟨u, a, b⟩ := s2.2 j hj; ⟨u, a, KEEP hD b W hW⟩⟩ ⟨s2'.1, fun j hj => let ⟨u, a, b⟩ := s2'.2 j hj; ⟨u, a, KEEP hD' b W hW⟩⟩ (fun k hk => Nat.lt_of_lt_of_le (hD k hk) hW.size) (fun k hk => Nat.lt_of_lt_of_le (hD' k hk) hW.size) (by omega) (by omega) (fun l hl => by have := hb.2.2.2 l hl; omega) (fun l hl => by have := hb'.2.2.2 l hl; omega)
  have HE : ∀ {v v' : Value} {l l' : List Int}, Sl w D 1 v l.length (intCells l) → Sl w D' 1 v' l'.length (intCells l') → l.length ≤ 100000 → l'.length ≤ 100000 → Hid (∀ W, Below w.heap.size w W → Calls Tryz.prog 23 #[v, v'] W fun e w' => e = .returned (.bool (decide (l = l'))) ∧ Below W.heap.size W w') := fun h h' hb hb' => Lib.hid fun W hW => c_EqI (KEEP hD h W hW) (KEEP hD' h' W hW) (fun k hk => Nat.lt_of_lt_of_le (hD k hk) hW.size) (fun k hk => Nat.lt_of_lt_of_le (hD' k hk) hW.size) (by omega) (by omega)
  have HIN := HE h.inp h'.inp hb.2.1 hb'.2.1
  have HOU := HE h.out h'.out hb.2.2.1 hb'.2.2.1
  obtain ⟨AC, nc, cC, rfl⟩ : ∃ A n c, vC = .slice A n c := by obtain ⟨A, c, e, _⟩ := s1; exact ⟨A, _, c, e⟩
  obtain ⟨AI, ni, cI, rfl⟩ : ∃ A n c, vI = .slice A n c := by obtain ⟨A, c, e, _⟩ := h.inp; exact ⟨A, _, c, e⟩
  obtain ⟨AO, no, cO, rfl⟩ : ∃ A n c, vO = .slice A n c := by obtain ⟨A, c, e, _⟩ := h.out; exact ⟨A, _, c, e⟩
  obtain ⟨AC', nc', cC', rfl⟩ : ∃ A n c, vC' = .slice A n c := by obtain ⟨A, c, e, _⟩ := s1'; exact ⟨A, _, c, e⟩
  obtain ⟨AI', ni', cI', rfl⟩ : ∃ A n c, vI' = .slice A n c := by obtain ⟨A, c, e, _⟩ := h'.inp; exact ⟨A, _, c, e⟩
  obtain ⟨AO', no', cO', rfl⟩ : ∃ A n c, vO' = .slice A n c := by obtain ⟨A, c, e, _⟩ := h'.out; exact ⟨A, _, c, e⟩
  obtain ⟨r1, h1⟩ : ∃ r, decide (cs = cs') = r := ⟨_, rfl⟩
  obtain ⟨r2, h2⟩ : ∃ r, decide (inp = inp') = r := ⟨_, rfl⟩
  obtain ⟨r3, h3⟩ : ∃ r, decide (out = out') = r := ⟨_, rfl⟩
  rw [h1] at HC ⊢
  rw [h2] at HIN ⊢
  rw [h3] at HOU ⊢
  clear h h' hD hD' hb hb' s1 s2 s1' s2' KEEP HE h1 h2 h3
  go_enter Tryz.func12, Tryz.ntmps12
  go_upto_region 1 with fail
  refine wp_nameE ?_
  intro w1 hw1
  have hb1 : Below w.heap.size w w1 := by rw [hw1]; exact (by go_grown)
  have K1 : Blk w1 w.heap.size 32 #[.slice AC nc cC, .slice AI ni cI, .slice AO no cO] := by rw [hw1]; exact Blk.alloc (Blk.new _ _ _) _
  have K2 : Blk w1 (w.heap.size + 1) 32 #[.slice AC' nc' cC', .slice AI' ni' cI', .slice AO' no' cO'] := by rw [hw1]; exact Blk.new' (by simp) _ _
  have HK1 := Lib.hid K1; have HK2 := Lib.hid K2; have HB1 := Lib.hid hb1
  clear hw1 hb1 K1 K2
  obtain ⟨z_1, T_1, F_1⟩ := HK1.out.open_
  obtain ⟨z_2, T_2, F_2⟩ := HK2.out.open_
  go_wp2_with fail
  refine (HC.out w1 HB1.out).mono ?_
  rintro en w2 ⟨rfl, hb2⟩
  have HB2 := Lib.hid (HB1.out.next hb2)
  have HK1' := Lib.hid (HK1.out.next hb2); have HK2' := Lib.hid (HK2.out.next hb2)
  clear T_1 z_1 F_1 T_2 z_2 F_2 hb2
  obtain ⟨z_1, T_1, F_1⟩ := HK1'.out.open_
  obtain ⟨z_2, T_2, F_2⟩ := HK2'.out.open_
  cases r1
  · go_wp2_with fail
    go_ret
    exact ⟨rfl, HB2.out⟩
  go_wp2_with fail
  refine (HIN.out w2 HB2.out).mono ?_
  rintro en w3 ⟨rfl, hb3⟩
  have HB3 := Lib.hid (HB2.out.next hb3)
  have HK1'' := Lib.hid (HK1'.out.next hb3); have HK2'' := Lib.hid (HK2'.out.next hb3)
  clear T_1 z_1 F_1 T_2 z_2 F_2 hb3
  obtain ⟨z_1, T_1, F_1⟩ := HK1''.out.open_
  obtain ⟨z_2, T_2, F_2⟩ := HK2''.out.open_
  cases r2
  · go_wp2_with fail
    go_ret
    exact ⟨rfl, HB3.out⟩
  go_wp2_with fail
  refine (HOU.out w3 HB3.out).mono ?_
  rintro en w4 ⟨rfl, hb4⟩
  have HB4 := Lib.hid (HB3.out.next hb4)
  clear T_1 z_1 F_1 T_2 z_2 F_2 hb4
  go_wp2_with fail
  go_ret
  exact ⟨by simp, HB4.out⟩
theorem e_number1 (n : Int) (w : World) : Calls Tryz.prog 14 #[.int .i64 n] w fun e w' => (∃ vC, e = .returned (.agg #[vC, .slice none 0 0, .slice none 0 0]) ∧ SW w' (fun k => w.heap.size ≤ k ∧ k < w'.heap.size) vC (.slice none 0 0) (.slice none 0 0) [[n]] [] []) ∧ Below w.heap.size w w' := by
  go_enter Tryz.func14, Tryz.ntmps14
  go_upto_region 1 with fail
  refine wp_nameE ?_
  intro w1 hw1
  have hb1 : Below w.heap.size w w1 := by rw [hw1]; exact (by go_grown)
  have K1 : Blk w1 w.heap.size 32 #[.slice none 0 0, .slice none 0 0, .slice none 0 0] := by rw [hw1]; exact blkA
  have HK1 := Lib.hid K1; have HB1 := Lib.hid hb1
  have hz1 : w.heap.size < w1.heap.size := K1.lt
  clear hw1 hb1
  obtain ⟨z_1, T_1, F_1⟩ := K1.open_
  clear K1
  go_wp2_with fail
  have fin : ∀ W, Blk W (w1.heap.size + 1) 30 #[.slice (some ⟨w1.heap.size, 0, none⟩) 1 1] → Blk W w1.heap.size 3 #[.int .i64 n] → Below w.heap.size w W → (∃ vC, Ending.returned (.agg #[.slice (some ⟨w1.heap.size + 1, 0, none⟩) 1 1, .slice none 0 0, .slice none 0 0]) = .returned (.agg #[vC, .slice none 0 0, .slice none 0 0]) ∧ SW W (fun k => w.heap.size ≤ k ∧ k < W.heap.size) vC (.slice none 0 0) (.slice none 0 0) [[n]] [] []) ∧ Below w.heap.size w W := fun W h1 h2 h3 => by
    have hD : ∀ {g : Nat} {u : Value} {t : TypeId}, Blk W g t #[u] → w.heap.size ≤ g → Sl W (fun k => w.heap.size ≤ k ∧ k < W.heap.size) 1 (.slice (some ⟨g, 0, none⟩) 1 1) 1 [u] := fun {g u t} h hg =>
      ⟨_, 1, rfl, Nat.le_refl _, (fun e => by cases e), rfl, fun _ => ⟨g, 0, rfl, ⟨hg, h.lt⟩, fun j v hv => by
        match j, hv with
        | 0, hv => simp at hv; subst hv; exact h.cell 0⟩⟩
    refine ⟨⟨_, rfl, ⟨⟨[.slice (some ⟨w1.heap.size, 0, none⟩) 1 1], hD h1 (by omega), fun i v l hv hl => ?_⟩, Sl.nil, Sl.nil⟩⟩, h3⟩
    match i, hv, hl with
    | 0, hv, hl =>
      simp at hv hl; subst hv; subst hl
      exact hD h2 (by omega)
  have K9 := ((HK1.out.set_ 0 (.slice (some ⟨w1.heap.size + 1, 0, none⟩) 1 1)).set_ 1 (.slice none 0 0)).set_ 2 (.slice none 0 0)
  refine bodyPost_ret_by (results_cell_row rfl _ _ w.heap.size 32 #[.slice (some ⟨w1.heap.size + 1, 0, none⟩) 1 1, .slice none 0 0, .slice none 0 0] _ _ rfl (show Blk _ w.heap.size 32 #[.slice (some ⟨w1.heap.size + 1, 0, none⟩) 1 1, .slice none 0 0, .slice none 0 0] from Blk.alloc (Blk.alloc (by simpa using K9) _) _) Tryz.underlying32 rfl (by rw [info_stateS]; rfl)) rfl ?_
  exact fin _ (Blk.new' (by simp) _ _) (Blk.alloc (Blk.new' (by simp) _ _) _) ((((((HB1.out.setCell (Nat.le_refl _) _).setCell (Nat.le_refl _) _).setCell (Nat.le_refl _) _).alloc (by simp; omega) _).alloc (by simp; omega) _))
end
end Go.Proofs.YtakfdnnlhjhcfaaGreatDoor
