/- scope.inner, exactly; what visit counts. Printed by gen_whjo.py. -/
import Derived.Test.YtakfdnnlhjhcfaaGreatDoorM10
import Derived.Test.YtakfdnnlhjhcfaaGreatDoorM21
set_option linter.unusedVariables false
set_option linter.unusedSimpArgs false
set_option maxRecDepth 100000
set_option maxHeartbeats 4000000
namespace Bk
open Go Go.RowKit
theorem wp_append_new {P : Program} {w : World} {o : Oper} {a : Act} {K : Act → World → Prop} {Q : Exit → Act → World → Prop} (s x : Operand) (t : TypeId) (ho : o.op = .call { callee := .builtin .append, args := #[s, x], argTypes := #[t, t] })
    (e : TypeId) (i : TypeInfo) (z : Value) (size bytes : Nat) (ht : P.underlying t = some (.slice e)) (hi : P.info? e = some i) (hz : i.zero = some z) (hsize : i.size = size) (hby : i.bytes = bytes) (hzs : z.cells.size = size) (hsz : 0 < size)
    {D : Nat → Prop} {A : Option Addr} {n : Nat} {xs : List Value} (hs : a.eval s = .slice A n n) (hS : Sl w D size (.slice A n n) n xs)
    (ad : Addr) (m c : Nat) (news : List Value) (hx : a.eval x = .slice (some ad) m c) (hm : 0 < m) (hl : news.length = m * size) (hnews : ∀ j u, news[j]? = some u → w.cell? (ad.add j) = some u)
    (h63 : n + m ≤ maxLen) (hbytes : (n + m) * bytes ≤ 140737488355328)
    (h : ∀ v' w', w'.ownsRow w.heap.size e size v' (n + m) (xs ++ news) → Below w.heap.size w w' → K (a.put o.dst v') w') : o.wp P a w K Q := by
  subst hsize
  subst hby
  have hsmall : n + m ≤ 9223372036854775807 := by simp only [maxLen] at h63; omega
  obtain ⟨A', cap', hv, hcap, hA, hR⟩ := hS
  injection hv with hv1 _ hv3
  subst hv1; subst hv3
  have hxl : xs.length = n * i.size := hR.1
  have hlen : (xs ++ news).length = (n + m) * i.size := by rw [List.length_append, hxl, hl, Nat.add_mul]
  have grown : ∀ (old : Nat), old < n + m →
      (w.drew.alloc (.cells (xs.toArray ++ news.toArray ++ Builtin.zeroCells z.cells (grownCap w (n + m) old e - (n + m))) e)).ownsRow w.heap.size e i.size
        (.slice (some ⟨w.heap.size, 0, none⟩) (n + m) (grownCap w (n + m) old e)) (n + m) (xs ++ news) ∧
      Below w.heap.size w (w.drew.alloc (.cells (xs.toArray ++ news.toArray ++ Builtin.zeroCells z.cells (grownCap w (n + m) old e - (n + m))) e)) := by
    intro old hlt
    have hge := grownCap_ge w (n + m) old e
    have hcm : grownCap w (n + m) old e ≤ maxLen := grownCap_le_maxLen w (n + m) old e h63
    refine ⟨⟨hlen, .inr ⟨w.heap.size, _, _, rfl, Nat.le_refl _, heap_alloc_new w.drew _, hge, hcm, ?_, ?_⟩⟩, (Below.refl _ _).drew.alloc (Nat.le_refl _) _⟩
    · simp only [Array.size_append, List.size_toArray, size_zeroCells, hzs, hxl, hl, ← Nat.add_mul]
      congr 1
      omega
    · simp only [Array.toList_append, List.append_assoc]
      rw [← List.append_assoc, ← hlen]
      exact List.take_left
  cases A with
  | none =>
    have hn0 : n = 0 := hA rfl
    subst hn0
    have hx0 : xs = [] := List.eq_nil_of_length_eq_zero (by simpa using hxl)
    subst hx0
    have hr := run_append_nil (P := P) w t o.type e i z ht hi hz ad m c news hl hnews hm (by omega) (by have hb := hbytes; simp only [Nat.zero_add] at hb; omega)
    have hgr := grown 0 (by omega)
    simp only [Nat.zero_add, List.nil_append, Array.empty_append] at hgr h
    unfold Oper.wp execOp
    simp only [ho, resolve, invoke, builtin, Sem.run_bind, Sem.run_pure, Result.andThen_ok, List.map_toArray, List.map_cons, List.map_nil, hs, hx, hr]
    exact h _ _ hgr.1 hgr.2
  | some b =>
    have holds : ∀ j u, xs[j]? = some u → w.cell? (b.add j) = some u := fun j u hu => by
      have hj := (List.getElem?_eq_some_iff.1 hu).1
      have h0 : 0 < n := by rcases Nat.eq_zero_or_pos n with h | h; (subst h; omega); exact h
      obtain ⟨g, off, eb, _, hc⟩ := hR.2 h0
      injection eb with eb
      subst eb
      rw [Addr.add_lit]
      exact hc j u hu
    have hr := run_append_grow (P := P) w t o.type e i z ht hi hz b n n xs hxl holds ad m c news hl hnews (by omega) (by omega) (growslice_fits (by omega) hbytes)
    have hgr := grown n (by omega)
    unfold Oper.wp execOp
    simp only [ho, resolve, invoke, builtin, Sem.run_bind, Sem.run_pure, Result.andThen_ok, List.map_toArray, List.map_cons, List.map_nil, hs, hx, hr]
    exact h _ _ hgr.1 hgr.2
def innerX (x : Nd) (i : Nat) (vs : List Vr) : List Vr := if x.k = 54 ∧ i = 1 then vs ++ [⟨x.nm, 1, 0⟩] else if x.k = 55 ∧ i = 0 then vs ++ [⟨x.nm, 3, 0⟩] else vs
theorem innerX_len (x : Nd) (i : Nat) (vs : List Vr) : (innerX x i vs).length ≤ vs.length + 1 := by
  unfold innerX; split
  · simp
  · split <;> simp
def one (e : Int) : Nat := if e = 0 then 0 else 1
theorem one_le (e : Int) : one e ≤ 1 := by unfold one; split <;> omega
open Go.Proofs.YtakfdnnlhjhcfaaGreatDoor
noncomputable def cntB (w : World) (B : Nat) (ps : List Pc) : Nat → Nd → List Vr → Nat
  | 0, _, _ => 0
  | d + 1, x, vs => one (faultX vs ps x) + (if x.k = 50 ∨ x.k = 51 then sumTo (fun i => one (argX vs ps x.nm x.n i (kidN w B x i).nm)) x.n else sumTo (fun i => cntB w B ps d (kidN w B x i) (innerX x i vs)) x.n)
theorem limTo_sum {f : Nat → Nat → Bool × Nat} {g : Nat → Nat} : ∀ {n lf c : Nat}, (∀ i, i < n → ∀ lf c, f i lf = (true, c) → g i + c ≤ lf) → limTo f n lf = (true, c) → sumTo g n + c ≤ lf
  | 0, lf, c, _, h => by simp only [limTo, Prod.mk.injEq] at h; simp only [sumTo]; omega
  | n + 1, lf, c, hf, h => by
    simp only [limTo] at h
    split at h
    · rename_i h1
      have h2 := limTo_sum (n := n) (fun i hi => hf i (by omega)) (show limTo f n lf = (true, (limTo f n lf).2) by rw [← h1])
      have h3 := hf n (by omega) _ _ h
      simp only [sumTo]; omega
    · rename_i h1
      rw [h] at h1; exact absurd rfl h1
theorem limF_at {w : World} {B d dp lf c : Nat} {x : Nd} (h : limF w B (d + 1) x dp lf = (true, c)) : 1 ≤ dp ∧ 1 ≤ lf ∧ limTo (fun i => limF w B d (kidN w B x i) (dp - 1)) x.n (lf - 1) = (true, c) := by
  rw [limF] at h
  split at h
  · cases h
  · rename_i h0; exact ⟨by omega, by omega, h⟩
theorem cntB_lim {w : World} {B : Nat} (ps : List Pc) : ∀ (d : Nat) (x : Nd) (vs : List Vr) (dp lf c : Nat), limF w B d x dp lf = (true, c) → cntB w B ps d x vs + c ≤ lf ∧ c < lf
  | 0, _, _, _, _, _, h => by rw [limF] at h; cases h
  | d + 1, x, vs, dp, lf, c, h => by
    obtain ⟨h1, h2, h3⟩ := limF_at h
    have hc : sumTo (fun _ => 1) x.n + c ≤ lf - 1 := limTo_sum (fun i _ lf c h => by have := (cntB_lim ps d _ vs _ _ _ h).2; omega) h3
    rw [cntB]
    have h5 := one_le (faultX vs ps x)
    have mono : ∀ (g : Nat → Nat), (∀ i, g i ≤ 1) → ∀ n, sumTo g n ≤ sumTo (fun _ => 1) n := fun g hg n => by
      induction n with
      | zero => exact Nat.le_refl _
      | succ n ih => have := hg n; simp only [sumTo]; omega
    split
    · have := mono (fun i => one (argX vs ps x.nm x.n i (kidN w B x i).nm)) (fun i => one_le _) x.n
      omega
    · have := limTo_sum (g := fun i => cntB w B ps d (kidN w B x i) (innerX x i vs)) (fun i _ lf c h => (cntB_lim ps d _ _ _ _ _ h).1) h3
      omega
theorem dn_next {bf size : Nat} {q : Value} {w w' : World} {v : Value} {n : Nat} {xs : List Value} (h : Sl w (Dn bf q w) size v n xs) (hb : Below w.heap.size w w') : Sl w' (Dn bf q w') size v n xs :=
  h.keep (fun b o hd => hb.cell (p := ⟨b, o, none⟩) hd.1) (fun k hk => ⟨Nat.lt_of_lt_of_le hk.1 hb.size, hk.2⟩)
theorem dn_emt {bf size : Nat} {q q' : Value} {w w' : World} {v : Value} {n : Nat} {xs : List Value} (h : Sl w (Dn bf q w) size v n xs) (he : Emt bf w w' q q') : Sl w' (Dn bf q' w') size v n xs :=
  h.keep (fun b o hd => he.1.cell hd.1 hd.2 o) (fun k hk => ⟨Nat.lt_of_lt_of_le hk.1 he.1.size, fun ho => by
    rcases ho with ho | ho
    · exact hk.2 (.inl ho)
    · rcases he.2 with e | e
      · exact hk.2 (.inr (by rw [← e]; exact ho))
      · have := e k ho; have := hk.1; omega⟩)
theorem sl_vs {w : World} {D : Nat → Prop} {A : Option Addr} {n c : Nat} {vs : List Vr} (h : Sl w D 3 (.slice A n c) n (varCells vs)) (hn : vs.length = n) {B : Nat} (hD : ∀ k, D k → k < B) : VsAt w B A vs := fun i v hi => by
  obtain ⟨A', c', e, _, _, hR⟩ := h
  injection e with e1 _ _
  subst e1
  have hil := (List.getElem?_eq_some_iff.1 hi).1
  obtain ⟨b, o, rfl, hb, hc⟩ := hR.2 (by omega)
  obtain ⟨t0, t1, t2⟩ := varCells_get vs i v hi
  exact ⟨b, o, rfl, hD b hb, hc _ _ t0, hc _ _ t1, hc _ _ t2⟩
theorem vs_sl {w : World} {B : Nat} {A : Option Addr} {n c : Nat} {vs : List Vr} (h : VsAt w B A vs) (hn : vs.length = n) (hc : n ≤ c) (hA : A = none → c = 0) : Sl w (fun k => k < B) 3 (.slice A n c) n (varCells vs) := by
  refine ⟨A, c, rfl, hc, hA, by rw [varCells_length, hn], fun h0 => ?_⟩
  obtain ⟨g, o, e, hg, _⟩ := h 0 _ (List.getElem?_eq_getElem (by omega))
  refine ⟨g, o, e, hg, fun j u hu => ?_⟩
  have hj : j < vs.length * 3 := by have := (List.getElem?_eq_some_iff.1 hu).1; rw [varCells_length] at this; exact this
  obtain ⟨g', o', e', _, c0, c1, c2⟩ := h (j / 3) _ (List.getElem?_eq_getElem (show j / 3 < vs.length by omega))
  rw [e] at e'; injection e' with e'; injection e' with e1 e2; subst e1; subst e2
  obtain ⟨t0, t1, t2⟩ := varCells_get vs (j / 3) _ (List.getElem?_eq_getElem (show j / 3 < vs.length by omega))
  have hm : j = j / 3 * 3 ∨ j = j / 3 * 3 + 1 ∨ j = j / 3 * 3 + 2 := by omega
  rcases hm with hm | hm | hm
  · rw [hm] at hu ⊢; rw [t0] at hu; rw [← hu]; rw [show o + (j / 3 * 3) = o + j / 3 * 3 by omega]; exact c0
  · rw [hm] at hu ⊢; rw [t1] at hu; rw [← hu]; rw [show o + (j / 3 * 3 + 1) = o + j / 3 * 3 + 1 by omega]; exact c1
  · rw [hm] at hu ⊢; rw [t2] at hu; rw [← hu]; rw [show o + (j / 3 * 3 + 2) = o + j / 3 * 3 + 2 by omega]; exact c2
end Bk
namespace Go.Proofs.YtakfdnnlhjhcfaaGreatDoor
open Go.RowKit Bk
theorem e_ClipV (w : World) {D : Nat → Prop} {A : Option Addr} {n c : Nat} {xs : List Value} (h : Sl w D 3 (.slice A n c) n xs) (hn : n ≤ 1000000) :
    Calls Tryz.prog 96 #[.slice A n c] w fun en w' => en = .returned (.slice A n n) ∧ Below w.heap.size w w' := by
  obtain ⟨A', cap, e, hcap, hA, hR⟩ := h
  injection e with e1 _ e2
  subst e1; subst e2
  cases A with
  | none =>
    obtain rfl := hA rfl
    obtain rfl : n = 0 := by omega
    clear hR hA hcap
    go_enter Tryz.func96, Tryz.ntmps96
    go_wp2_with fail
    go_ret
    exact ⟨rfl, by go_grown⟩
  | some b =>
    have q0 : (0 : Int) ≤ (n : Int) := by omega
    have q1 : (n : Int) ≤ (c : Int) := by omega
    clear hR hA
    obtain ⟨g, o, sp⟩ := b
    go_enter Tryz.func96, Tryz.ntmps96
    go_wp2_with fail
    go_ret
    exact ⟨by simp, by go_grown⟩
theorem e_innerO (x : Nd) (i : Nat) (hx : ¬ (x.k = 54 ∧ i = 1)) (hx2 : ¬ (x.k = 55 ∧ i = 0)) {w : World} {D : Nat → Prop} {A : Option Addr} {na ca : Nat} {vs : List Vr} (h : Sl w D 3 (.slice A na ca) na (varCells vs)) (hD : ∀ k, D k → k < w.heap.size) (hvs : vs.length = na) :
    Calls Tryz.prog 61 #[.agg #[.int .u8 x.k, .int .i64 x.num, .string x.nm, .slice x.A x.n x.cap], .int .i64 i, .slice A na ca] w fun en w' => ∃ A' c', en = .returned (.slice A' (innerX x i vs).length c') ∧ Sl w' (fun k => D k ∨ w.heap.size ≤ k ∧ k < w'.heap.size) 3 (.slice A' (innerX x i vs).length c') (innerX x i vs).length (varCells (innerX x i vs)) ∧ Below w.heap.size w w' := by
  have e0 : innerX x i vs = vs := by unfold innerX; rw [if_neg hx, if_neg hx2]
  rw [e0, hvs]
  have HS : Hid (∀ w', Below w.heap.size w w' → Sl w' (fun k => D k ∨ w.heap.size ≤ k ∧ k < w'.heap.size) 3 (.slice A na ca) na (varCells vs)) := Lib.hid fun w' hb => h.keep (fun b o hd => hb.cell (p := ⟨b, o, none⟩) (hD b hd)) (fun k hk => .inl hk)
  clear h hD e0 hvs
  obtain ⟨k, num, nm, XA, n, cap⟩ := x
  dsimp only at *
  obtain ⟨q1, hq1⟩ : ∃ q, (k == 54) = q := ⟨_, rfl⟩
  obtain ⟨q2, hq2⟩ : ∃ q, ((i : Int) == 1) = q := ⟨_, rfl⟩
  obtain ⟨q3, hq3⟩ : ∃ q, (k == 55) = q := ⟨_, rfl⟩
  obtain ⟨q4, hq4⟩ : ∃ q, ((i : Int) == 0) = q := ⟨_, rfl⟩
  have g1 : ¬ (q1 = true ∧ q2 = true) := by rintro ⟨rfl, rfl⟩; simp at hq1 hq2; omega
  have g2 : ¬ (q3 = true ∧ q4 = true) := by rintro ⟨rfl, rfl⟩; simp at hq3 hq4; omega
  clear hx hx2
  cases q1 <;> cases q2 <;> cases q3 <;> cases q4 <;> first | exact absurd ⟨rfl, rfl⟩ g1 | exact absurd ⟨rfl, rfl⟩ g2 | skip
  all_goals
    clear g1 g2
    go_enter Tryz.func61, Tryz.ntmps61
    go_wp2_with fail
    go_ret
    exact ⟨_, _, rfl, HS.out _ (by go_grown), by go_grown⟩
theorem sl_clip {w : World} {D : Nat → Prop} {size n c : Nat} {A : Option Addr} {xs : List Value} (h : Sl w D size (.slice A n c) n xs) : Sl w D size (.slice A n n) n xs := by
  obtain ⟨A', c', e, h1, h2, h3⟩ := h
  injection e with e1 _ e2
  subst e1; subst e2
  exact ⟨A, n, rfl, Nat.le_refl _, fun e => by have := h2 e; omega, h3⟩
theorem e_inner54 (x : Nd) (i : Nat) (hx : x.k = 54) (hi : i = 1) {w : World} {D : Nat → Prop} {A : Option Addr} {na ca : Nat} {vs : List Vr} (h : Sl w D 3 (.slice A na ca) na (varCells vs)) (hD : ∀ k, D k → k < w.heap.size) (hvs : vs.length = na) (hna : na ≤ 100000) :
    Calls Tryz.prog 61 #[.agg #[.int .u8 x.k, .int .i64 x.num, .string x.nm, .slice x.A x.n x.cap], .int .i64 i, .slice A na ca] w fun en w' => ∃ A' c', en = .returned (.slice A' (innerX x i vs).length c') ∧ Sl w' (fun k => D k ∨ w.heap.size ≤ k ∧ k < w'.heap.size) 3 (.slice A' (innerX x i vs).length c') (innerX x i vs).length (varCells (innerX x i vs)) ∧ Below w.heap.size w w' := by
  have e0 : innerX x i vs = vs ++ [⟨x.nm, 1, 0⟩] := by unfold innerX; simp [hx, hi]
  have e1 : (vs ++ [(⟨x.nm, 1, 0⟩ : Vr)]).length = na + 1 := by simp [hvs]
  have e2 : varCells (vs ++ [(⟨x.nm, 1, 0⟩ : Vr)]) = varCells vs ++ [.string x.nm, .int .u8 1, .int .i64 0] := by simp [varCells]
  rw [e0, e1, e2]
  have HS := Lib.hid h; have HD := Lib.hid hD
  obtain ⟨i3, li, lz, ls, lb⟩ := info_parts info_decl
  have HI := Lib.hid li; have HZ := Lib.hid lz; have HSZ := Lib.hid ls; have HBY := Lib.hid lb
  clear h hD e0 e1 e2 hvs li lz ls lb
  obtain ⟨k, num, nm, XA, n, cap⟩ := x
  dsimp only at *
  subst hx; subst hi
  go_enter Tryz.func61, Tryz.ntmps61
  go_upto_region 1 with fail
  refine wp_nameE ?_
  intro w1 hw1
  have hb1 : Below w.heap.size w w1 := by rw [hw1]; exact (by go_grown)
  have K1 : Blk w1 w.heap.size 26 #[.int .u8 54, .int .i64 num, .string nm, .slice XA n cap] := by rw [hw1]; exact blkA
  have HK1 := Lib.hid K1; have HB1 := Lib.hid hb1
  have hz1 : w.heap.size < w1.heap.size := K1.lt
  have HS1 := Lib.hid (HS.out.keep (w' := w1) (D' := D) (fun b o hd => hb1.cell (p := ⟨b, o, none⟩) (HD.out b hd)) (fun k hk => hk))
  clear hw1 hb1
  obtain ⟨z_1, T_1, F_1⟩ := K1.open_
  clear K1
  go_upto_region 2 with fail
  clear z_1 T_1 F_1
  refine wp_region_held_drew (S := fun W => Below w1.heap.size w1 W) (by kernel_rfl) ((Below.refl _ _).drew) (fun hH => ?_)
  refine wpAnyH_atN ?_
  intro wa hwa
  have hX : Below w1.heap.size w1 wa := by rw [hwa]; exact (Below.refl _ _).drew
  replace hH : Below w1.heap.size w1 wa := hX
  clear hwa
  refine tkQ 0 (v := ?_) rfl hH ?_
  (try simp only [PU, Act.put])
  refine tkQ 2 (v := ?_) rfl hH ?_
  (try simp only [PU, Act.put])
  refine tkK 3 (v := ?_) rfl ?hy hH ?_
  case hy => (intro w9_ hS9; have t := (hS9.cell (p := ⟨w.heap.size, 2, none⟩) hz1).trans (HK1.out.cell 2); clear hS9; go_simp; try with_reducible rfl)
  (try simp only [PU, Act.put])
  refine tkQ 4 (v := ?_) rfl hH ?_
  (try simp only [PU, Act.put])
  refine wpAnyH_ready (rs := [1, 5]) (by kernel_rfl) (by simp) ?_
  refine AllReadyH.cons rfl (fun K hK => ?_) (AllReadyH.cons rfl (fun K hK => ?_) (AllReadyH.nil))
  · go_simp
    refine (e_ClipV wa (HS1.out.keep (w' := wa) (D' := D) (fun b o hd => hX.cell (p := ⟨b, o, none⟩) (Nat.lt_trans (HD.out b hd) hz1)) (fun k hk => hk)) (by omega)).mono ?_
    rintro en wb ⟨rfl, hbn⟩
    replace hX := hX.next hbn
    clear hbn
    refine hK.out _ _ hX (fun hH => ?_)
    clear hK
    (try simp only [PU, Act.put])
    refine nxH 5 (by kernel_rfl) rfl (fun K hK => ?_)
    go_simp
    replace hH : Below w1.heap.size w1 _ := hX.alloc hX.size (.cells #[.string nm, .int .u8 1, .int .i64 0] 72)
    refine hK.out _ _ hH (fun hH => ?_)
    clear hK
    (try simp only [PU, Act.put])
    refine wpAnyH_atN ?_
    intro wc hwn
    have HKN := Lib.hid (show Blk wc wb.heap.size 72 #[.string nm, .int .u8 1, .int .i64 0] by rw [hwn]; exact Blk.new _ _ _)
    replace hX : Below w1.heap.size w1 wc := by rw [hwn]; exact hX.alloc hX.size _
    have hzb := hX.size
    clear hwn
    refine nxH 6 (by kernel_rfl) rfl (fun K hK => ?_)
    rw [if_pos (by rfl)]
    refine wp_append_new (.tmp 16) (.tmp 20) 22 rfl 72 i3 _ 3 32 Tryz.underlying22 HI.out HZ.out HSZ.out HBY.out rfl (by decide) (D := D) (A := A) (n := na) (xs := varCells vs) (by simp [Act.eval]) (sl_clip (HS1.out.keep (fun b o hd => hX.cell (p := ⟨b, o, none⟩) (Nat.lt_trans (HD.out b hd) hz1)) (fun k hk => hk))) ⟨wb.heap.size, 0, none⟩ 1 1 [.string nm, .int .u8 1, .int .i64 0] (by simp [Act.eval]) (by decide) rfl (by intro j u hu; rw [Addr.add_lit, Nat.zero_add]; exact (HKN.out.cell j).trans (by rw [List.getElem?_toArray]; exact hu)) (by unfold maxLen; omega) (by omega) ?_
    intro v_2 wd hown hbn
    obtain ⟨A_2, c_2, rfl⟩ := own_form hown
    have HOW := Lib.hid hown
    have HBA := Lib.hid hX.size
    replace hX := hX.next hbn
    clear hown hbn
    refine hK.out _ _ hX (fun hH => ?_)
    clear hK
    (try simp only [PU, Act.put])
    refine tkQ 7 (v := ?_) rfl hH ?_
    (try simp only [PU, Act.put])
    refine wpAnyH_done (by kernel_rfl) ?_ _
    have HX := Lib.hid hX
    clear hX hH
    go_wp2_with fail
    go_ret
    refine ⟨A_2, c_2, rfl, ?_, HB1.out.next HX.out⟩
    exact (Sl.of_own HOW.out).keep (fun _ _ _ => rfl) (fun kk hk => .inr ⟨by have := HBA.out; have := HB1.out.size; omega, hk.2⟩)
  · go_simp
    replace hH : Below w1.heap.size w1 _ := hX.alloc hX.size (.cells #[.string nm, .int .u8 1, .int .i64 0] 72)
    refine hK.out _ _ hH (fun hH => ?_)
    clear hK
    (try simp only [PU, Act.put])
    refine wpAnyH_atN ?_
    intro wb hwn
    have HKN := Lib.hid (show Blk wb wa.heap.size 72 #[.string nm, .int .u8 1, .int .i64 0] by rw [hwn]; exact Blk.new _ _ _)
    replace hX : Below w1.heap.size w1 wb := by rw [hwn]; exact hX.alloc hX.size _
    have hzb := hX.size
    clear hwn
    refine nxH 1 (by kernel_rfl) rfl (fun K hK => ?_)
    go_simp
    refine (e_ClipV wb (HS1.out.keep (w' := wb) (D' := D) (fun b o hd => hX.cell (p := ⟨b, o, none⟩) (Nat.lt_trans (HD.out b hd) hz1)) (fun k hk => hk)) (by omega)).mono ?_
    rintro en wc ⟨rfl, hbn⟩
    replace hX := hX.next hbn
    replace HKN := Lib.hid (HKN.out.next hbn)
    clear hbn
    refine hK.out _ _ hX (fun hH => ?_)
    clear hK
    (try simp only [PU, Act.put])
    refine nxH 6 (by kernel_rfl) rfl (fun K hK => ?_)
    rw [if_pos (by rfl)]
    refine wp_append_new (.tmp 16) (.tmp 20) 22 rfl 72 i3 _ 3 32 Tryz.underlying22 HI.out HZ.out HSZ.out HBY.out rfl (by decide) (D := D) (A := A) (n := na) (xs := varCells vs) (by simp [Act.eval]) (sl_clip (HS1.out.keep (fun b o hd => hX.cell (p := ⟨b, o, none⟩) (Nat.lt_trans (HD.out b hd) hz1)) (fun k hk => hk))) ⟨wa.heap.size, 0, none⟩ 1 1 [.string nm, .int .u8 1, .int .i64 0] (by simp [Act.eval]) (by decide) rfl (by intro j u hu; rw [Addr.add_lit, Nat.zero_add]; exact (HKN.out.cell j).trans (by rw [List.getElem?_toArray]; exact hu)) (by unfold maxLen; omega) (by omega) ?_
    intro v_2 wd hown hbn
    obtain ⟨A_2, c_2, rfl⟩ := own_form hown
    have HOW := Lib.hid hown
    have HBA := Lib.hid hX.size
    replace hX := hX.next hbn
    clear hown hbn
    refine hK.out _ _ hX (fun hH => ?_)
    clear hK
    (try simp only [PU, Act.put])
    refine tkQ 7 (v := ?_) rfl hH ?_
    (try simp only [PU, Act.put])
    refine wpAnyH_done (by kernel_rfl) ?_ _
    have HX := Lib.hid hX
    clear hX hH
    go_wp2_with fail
    go_ret
    refine ⟨A_2, c_2, rfl, ?_, HB1.out.next HX.out⟩
    exact (Sl.of_own HOW.out).keep (fun _ _ _ => rfl) (fun kk hk => .inr ⟨by have := HBA.out; have := HB1.out.size; omega, hk.2⟩)
theorem e_inner55 (x : Nd) (i : Nat) (hx : x.k = 55) (hi : i = 0) {w : World} {D : Nat → Prop} {A : Option Addr} {na ca : Nat} {vs : List Vr} (h : Sl w D 3 (.slice A na ca) na (varCells vs)) (hD : ∀ k, D k → k < w.heap.size) (hvs : vs.length = na) (hna : na ≤ 100000) :
    Calls Tryz.prog 61 #[.agg #[.int .u8 x.k, .int .i64 x.num, .string x.nm, .slice x.A x.n x.cap], .int .i64 i, .slice A na ca] w fun en w' => ∃ A' c', en = .returned (.slice A' (innerX x i vs).length c') ∧ Sl w' (fun k => D k ∨ w.heap.size ≤ k ∧ k < w'.heap.size) 3 (.slice A' (innerX x i vs).length c') (innerX x i vs).length (varCells (innerX x i vs)) ∧ Below w.heap.size w w' := by
  have e0 : innerX x i vs = vs ++ [⟨x.nm, 3, 0⟩] := by unfold innerX; simp [hx, hi]
  have e1 : (vs ++ [(⟨x.nm, 3, 0⟩ : Vr)]).length = na + 1 := by simp [hvs]
  have e2 : varCells (vs ++ [(⟨x.nm, 3, 0⟩ : Vr)]) = varCells vs ++ [.string x.nm, .int .u8 3, .int .i64 0] := by simp [varCells]
  rw [e0, e1, e2]
  have HS := Lib.hid h; have HD := Lib.hid hD
  obtain ⟨i3, li, lz, ls, lb⟩ := info_parts info_decl
  have HI := Lib.hid li; have HZ := Lib.hid lz; have HSZ := Lib.hid ls; have HBY := Lib.hid lb
  clear h hD e0 e1 e2 hvs li lz ls lb
  obtain ⟨k, num, nm, XA, n, cap⟩ := x
  dsimp only at *
  subst hx; subst hi
  go_enter Tryz.func61, Tryz.ntmps61
  go_upto_region 1 with fail
  refine wp_nameE ?_
  intro w1 hw1
  have hb1 : Below w.heap.size w w1 := by rw [hw1]; exact (by go_grown)
  have K1 : Blk w1 w.heap.size 26 #[.int .u8 55, .int .i64 num, .string nm, .slice XA n cap] := by rw [hw1]; exact blkA
  have HK1 := Lib.hid K1; have HB1 := Lib.hid hb1
  have hz1 : w.heap.size < w1.heap.size := K1.lt
  have HS1 := Lib.hid (HS.out.keep (w' := w1) (D' := D) (fun b o hd => hb1.cell (p := ⟨b, o, none⟩) (HD.out b hd)) (fun k hk => hk))
  clear hw1 hb1
  obtain ⟨z_1, T_1, F_1⟩ := K1.open_
  clear K1
  go_upto_region 4 with fail
  clear z_1 T_1 F_1
  refine wp_region_held_drew (S := fun W => Below w1.heap.size w1 W) (by kernel_rfl) ((Below.refl _ _).drew) (fun hH => ?_)
  refine wpAnyH_atN ?_
  intro wa hwa
  have hX : Below w1.heap.size w1 wa := by rw [hwa]; exact (Below.refl _ _).drew
  replace hH : Below w1.heap.size w1 wa := hX
  clear hwa
  refine tkQ 0 (v := ?_) rfl hH ?_
  (try simp only [PU, Act.put])
  refine tkQ 2 (v := ?_) rfl hH ?_
  (try simp only [PU, Act.put])
  refine tkK 3 (v := ?_) rfl ?hy hH ?_
  case hy => (intro w9_ hS9; have t := (hS9.cell (p := ⟨w.heap.size, 2, none⟩) hz1).trans (HK1.out.cell 2); clear hS9; go_simp; try with_reducible rfl)
  (try simp only [PU, Act.put])
  refine tkQ 4 (v := ?_) rfl hH ?_
  (try simp only [PU, Act.put])
  refine wpAnyH_ready (rs := [1, 5]) (by kernel_rfl) (by simp) ?_
  refine AllReadyH.cons rfl (fun K hK => ?_) (AllReadyH.cons rfl (fun K hK => ?_) (AllReadyH.nil))
  · go_simp
    refine (e_ClipV wa (HS1.out.keep (w' := wa) (D' := D) (fun b o hd => hX.cell (p := ⟨b, o, none⟩) (Nat.lt_trans (HD.out b hd) hz1)) (fun k hk => hk)) (by omega)).mono ?_
    rintro en wb ⟨rfl, hbn⟩
    replace hX := hX.next hbn
    clear hbn
    refine hK.out _ _ hX (fun hH => ?_)
    clear hK
    (try simp only [PU, Act.put])
    refine nxH 5 (by kernel_rfl) rfl (fun K hK => ?_)
    go_simp
    replace hH : Below w1.heap.size w1 _ := hX.alloc hX.size (.cells #[.string nm, .int .u8 3, .int .i64 0] 72)
    refine hK.out _ _ hH (fun hH => ?_)
    clear hK
    (try simp only [PU, Act.put])
    refine wpAnyH_atN ?_
    intro wc hwn
    have HKN := Lib.hid (show Blk wc wb.heap.size 72 #[.string nm, .int .u8 3, .int .i64 0] by rw [hwn]; exact Blk.new _ _ _)
    replace hX : Below w1.heap.size w1 wc := by rw [hwn]; exact hX.alloc hX.size _
    have hzb := hX.size
    clear hwn
    refine nxH 6 (by kernel_rfl) rfl (fun K hK => ?_)
    rw [if_pos (by rfl)]
    refine wp_append_new (.tmp 31) (.tmp 35) 22 rfl 72 i3 _ 3 32 Tryz.underlying22 HI.out HZ.out HSZ.out HBY.out rfl (by decide) (D := D) (A := A) (n := na) (xs := varCells vs) (by simp [Act.eval]) (sl_clip (HS1.out.keep (fun b o hd => hX.cell (p := ⟨b, o, none⟩) (Nat.lt_trans (HD.out b hd) hz1)) (fun k hk => hk))) ⟨wb.heap.size, 0, none⟩ 1 1 [.string nm, .int .u8 3, .int .i64 0] (by simp [Act.eval]) (by decide) rfl (by intro j u hu; rw [Addr.add_lit, Nat.zero_add]; exact (HKN.out.cell j).trans (by rw [List.getElem?_toArray]; exact hu)) (by unfold maxLen; omega) (by omega) ?_
    intro v_2 wd hown hbn
    obtain ⟨A_2, c_2, rfl⟩ := own_form hown
    have HOW := Lib.hid hown
    have HBA := Lib.hid hX.size
    replace hX := hX.next hbn
    clear hown hbn
    refine hK.out _ _ hX (fun hH => ?_)
    clear hK
    (try simp only [PU, Act.put])
    refine tkQ 7 (v := ?_) rfl hH ?_
    (try simp only [PU, Act.put])
    refine wpAnyH_done (by kernel_rfl) ?_ _
    have HX := Lib.hid hX
    clear hX hH
    go_wp2_with fail
    go_ret
    refine ⟨A_2, c_2, rfl, ?_, HB1.out.next HX.out⟩
    exact (Sl.of_own HOW.out).keep (fun _ _ _ => rfl) (fun kk hk => .inr ⟨by have := HBA.out; have := HB1.out.size; omega, hk.2⟩)
  · go_simp
    replace hH : Below w1.heap.size w1 _ := hX.alloc hX.size (.cells #[.string nm, .int .u8 3, .int .i64 0] 72)
    refine hK.out _ _ hH (fun hH => ?_)
    clear hK
    (try simp only [PU, Act.put])
    refine wpAnyH_atN ?_
    intro wb hwn
    have HKN := Lib.hid (show Blk wb wa.heap.size 72 #[.string nm, .int .u8 3, .int .i64 0] by rw [hwn]; exact Blk.new _ _ _)
    replace hX : Below w1.heap.size w1 wb := by rw [hwn]; exact hX.alloc hX.size _
    have hzb := hX.size
    clear hwn
    refine nxH 1 (by kernel_rfl) rfl (fun K hK => ?_)
    go_simp
    refine (e_ClipV wb (HS1.out.keep (w' := wb) (D' := D) (fun b o hd => hX.cell (p := ⟨b, o, none⟩) (Nat.lt_trans (HD.out b hd) hz1)) (fun k hk => hk)) (by omega)).mono ?_
    rintro en wc ⟨rfl, hbn⟩
    replace hX := hX.next hbn
    replace HKN := Lib.hid (HKN.out.next hbn)
    clear hbn
    refine hK.out _ _ hX (fun hH => ?_)
    clear hK
    (try simp only [PU, Act.put])
    refine nxH 6 (by kernel_rfl) rfl (fun K hK => ?_)
    rw [if_pos (by rfl)]
    refine wp_append_new (.tmp 31) (.tmp 35) 22 rfl 72 i3 _ 3 32 Tryz.underlying22 HI.out HZ.out HSZ.out HBY.out rfl (by decide) (D := D) (A := A) (n := na) (xs := varCells vs) (by simp [Act.eval]) (sl_clip (HS1.out.keep (fun b o hd => hX.cell (p := ⟨b, o, none⟩) (Nat.lt_trans (HD.out b hd) hz1)) (fun k hk => hk))) ⟨wa.heap.size, 0, none⟩ 1 1 [.string nm, .int .u8 3, .int .i64 0] (by simp [Act.eval]) (by decide) rfl (by intro j u hu; rw [Addr.add_lit, Nat.zero_add]; exact (HKN.out.cell j).trans (by rw [List.getElem?_toArray]; exact hu)) (by unfold maxLen; omega) (by omega) ?_
    intro v_2 wd hown hbn
    obtain ⟨A_2, c_2, rfl⟩ := own_form hown
    have HOW := Lib.hid hown
    have HBA := Lib.hid hX.size
    replace hX := hX.next hbn
    clear hown hbn
    refine hK.out _ _ hX (fun hH => ?_)
    clear hK
    (try simp only [PU, Act.put])
    refine tkQ 7 (v := ?_) rfl hH ?_
    (try simp only [PU, Act.put])
    refine wpAnyH_done (by kernel_rfl) ?_ _
    have HX := Lib.hid hX
    clear hX hH
    go_wp2_with fail
    go_ret
    refine ⟨A_2, c_2, rfl, ?_, HB1.out.next HX.out⟩
    exact (Sl.of_own HOW.out).keep (fun _ _ _ => rfl) (fun kk hk => .inr ⟨by have := HBA.out; have := HB1.out.size; omega, hk.2⟩)
theorem e_innerX (x : Nd) (i : Nat) {w : World} {D : Nat → Prop} {A : Option Addr} {na ca : Nat} {vs : List Vr} (h : Sl w D 3 (.slice A na ca) na (varCells vs)) (hD : ∀ k, D k → k < w.heap.size) (hvs : vs.length = na) (hna : na ≤ 100000) :
    Calls Tryz.prog 61 #[.agg #[.int .u8 x.k, .int .i64 x.num, .string x.nm, .slice x.A x.n x.cap], .int .i64 i, .slice A na ca] w fun en w' => ∃ A' c', en = .returned (.slice A' (innerX x i vs).length c') ∧ Sl w' (fun k => D k ∨ w.heap.size ≤ k ∧ k < w'.heap.size) 3 (.slice A' (innerX x i vs).length c') (innerX x i vs).length (varCells (innerX x i vs)) ∧ Below w.heap.size w w' := by
  by_cases h1 : x.k = 54 ∧ i = 1
  · exact e_inner54 x i h1.1 h1.2 h hD hvs hna
  by_cases h2 : x.k = 55 ∧ i = 0
  · exact e_inner55 x i h2.1 h2.2 h hD hvs hna
  · exact e_innerO x i h1 h2 h hD hvs
end Go.Proofs.YtakfdnnlhjhcfaaGreatDoor
